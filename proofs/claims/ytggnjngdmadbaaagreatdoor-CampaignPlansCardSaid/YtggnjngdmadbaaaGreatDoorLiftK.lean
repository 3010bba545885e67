/-
  From a call's arguments to pure values, and back to the statement.
-/
import Derived.Test.YtggnjngdmadbaaaGreatDoorLiftJ
import Derived.OpenShut
import Derived.ProofKit
set_option linter.all false
abbrev jf:=@Go.IntWalk.wrap64_in
namespace Go.Lift
open Go Go.RowKit
variable [wB] [Mf]
variable {P:Program}
def Qt(W:World):Mem:=fun b o=>W.cell? ⟨b,o,none⟩
theorem ya1(W:World)(hT:wB.T (Qt W) W):Good (Qt W) W:=⟨hT,fun _ _ _ h=>h⟩
def XA:Ty→Bool
 |.int _ |.bool |.str=>true
 |.one t=>XA t
 |.pair a b=>XA a&&XA b
 |.arr _ e=>XA e
 |.slice e=>XA e&&decide (0<e.size)
 |_=>false
def Hy:(t:Ty)→t.den→Prop
 |.int k,x=>k.min≤x∧x≤k.max
 |.bool,_=>True
 |.str,s=>s.size≤maxLen
 |.one t,x=>Hy t x
 |.pair a b,x=>Hy a x.1∧Hy b x.2
 |.arr n e,x=>∀i,i<n→Hy e (x i)
 |.slice e,l=>l.length≤maxLen∧∀x∈l,Hy e x
 |_,_=>True
theorem CQ{t:Ty}{T:TypeId}(h:fits P t (.inl T)=true):P.cellsOf T=t.size:=by
 obtain⟨i,d,hi⟩:=Qx h;unfold Program.cellsOf;rw[hi.info];exact hi.size
theorem y9l{α:Type}{n:Nat}{R:Nat→α→Prop}(h:∀i,i<n→∃x,R i x):∃l:List α,l.length=n∧∀i (hi:i<l.length),R i l[i]:=by
 induction n with
 |zero=>exact⟨[],rfl,fun i hi=>absurd hi (zW _)⟩
 |succ n ih=>
  obtain⟨l,hl,hR⟩:=ih fun i hi=>h i (by omega)
  obtain⟨x,hx⟩:=h n (by omega);refine⟨l++[x],by simp[hl],fun i hi =>?_⟩;rcases z7 i l.length with hlt|hge
  ·rw[kd hlt];exact hR i hlt
  ·have:i=n:=by simp at hi;omega
   subst this;rw[xR hge];simp only[hl,yV,kj];exact hx
section
variable {H:Type} {enc:TypeId×Value→H} {W:World} {sp:Nat→Bool} {BI:Bool}
theorem CX:∀(t:Ty),(∀T vC cs x,fits P t (.inl T)=true→XA t=true→DataW.trod enc P W 0 sp BI vC T cs=some x→∃v:t.den,jB P t (Qt W) v cs∧Hy t v)∧
  (∀fs off (cs:List Value),fits P t (.inr (fs,off))=true→XA t=true→(∀f∈fs,∃vC x,DataW.trod enc P W 0 sp BI vC f.type ((cs.drop f.offset).take (P.cellsOf f.type))=some x)→
   ∃v:t.den,jB P t (Qt W) v ((cs.drop off).take t.size)∧Hy t v)
 |.int k=>by
  refine⟨fun T vC cs x h1 _ h =>?_,fun fs off cs h=>by simp[fits]at h⟩;obtain⟨n,rfl,_,hw⟩:=DataW.trod_int (fits_int h1) h;simp only[Lit.wf,qg,qI]at hw;exact⟨n,rfl,hw⟩
 |.bool=>by
  refine⟨fun T vC cs x h1 _ h =>?_,fun fs off cs h=>by simp[fits]at h⟩;obtain⟨b,rfl,_⟩:=DataW.trod_bool (fits_bool h1) h;exact⟨b,rfl,True.intro⟩
 |.str=>by
  refine⟨fun T vC cs x h1 _ h =>?_,fun fs off cs h=>by simp[fits]at h⟩;obtain⟨s,rfl,_,hs⟩:=DataW.trod_string (Ak h1) h;exact⟨s,rfl,hs⟩
 | .one t=>by
  refine⟨fun T vC cs x h1 hp h =>?_,fun fs off cs h=>by simp[fits]at h⟩;obtain⟨fs,Yh⟩:=AC h1 (.inr (.inl ⟨t,rfl⟩));obtain⟨xs,n,_,_,hl,hn,hf⟩:=DataW.trod_struct Yh h;rw[CQ h1]at hl;rw[fits]at h1;split at h1
  ·rename_i i dd hi wM;rw[Yh]at wM;cases wM;simp only[qg]at h1;obtain⟨_,h1⟩:=h1;split at h1
   ·rename_i f BH;simp only[qg]at h1;have ho:=qq h1.1;have vQ:fs.size=1:=by have:=congrArg List.length BH;simpa using this
    have h0:=hf 0 f (by rw[←zh,BH];rfl);obtain⟨y,hy⟩:∃y,xs[0]?=some y:=⟨_,qr (by omega)⟩
    rw[hy,ho,yz,CQ h1.2,zF (by simp only[Ty.size]at hl;omega)]at h0;exact(CX t).1 f.type n cs y h1.2 hp h0
   ·cases h1
  ·cases h1
 | .pair a b=>by
  have fields:∀fs off (cs:List Value),fits P (.pair a b) (.inr (fs,off))=true→XA (.pair a b)=true→(∀f∈fs,∃vC x,DataW.trod enc P W 0 sp BI vC f.type ((cs.drop f.offset).take (P.cellsOf f.type))=some x)→
    ∃v:(Ty.pair a b).den,jB P (.pair a b) (Qt W) v ((cs.drop off).take (Ty.pair a b).size)∧Hy (.pair a b) v:=by
   intro fs off cs h1 hp hf;simp only[XA,qg]at hp;have join:∀(x:a.den) (y:b.den),jB P a (Qt W) x ((cs.drop off).take a.size)→jB P b (Qt W) y ((cs.drop (off+a.size)).take b.size)→Hy a x→Hy b y→
     ∃v:(Ty.pair a b).den,jB P (.pair a b) (Qt W) v ((cs.drop off).take (Ty.pair a b).size)∧Hy (.pair a b) v:=fun x y hx hy ox oy=>by
    refine⟨(x,y),⟨?_,?_⟩,ox,oy⟩
    ·show jB P a (Qt W) x (((cs.drop off).take (a.size+b.size)).take a.size);rw[xQ,Nat.min_eq_left (by omega)];exact hx
    ·show jB P b (Qt W) y (((cs.drop off).take (a.size+b.size)).drop a.size);rw[ke,xk,yC];exact hy
   match fs,h1,hf with
   |[],h1,_=>simp[fits]at h1
   |[_],h1,_=>simp[fits]at h1
   |[f,g],h1,hf=>
    rw[fits.eq_2]at h1;simp only[qg]at h1;obtain⟨⟨⟨o1,f1⟩,o2⟩,f2⟩:=h1;have o1:=qq o1;have o2:=qq o2;obtain⟨n1,x1,e1⟩:=hf f (by simp);obtain⟨n2,x2,e2⟩:=hf g (by simp);rw[o1,CQ f1]at e1;rw[o2,CQ f2]at e2;obtain⟨v1,r1,k1⟩:=(CX a).1 f.type n1 _ x1 f1 hp.1 e1;obtain⟨v2,r2,k2⟩:=(CX b).1 g.type n2 _ x2 f2 hp.2 e2;exact join v1 v2 r1 r2 k1 k2
   |f::g::h::r,h1,hf=>
    rw[fits.eq_3]at h1;simp only[qg]at h1;obtain⟨⟨o1,f1⟩,f2⟩:=h1;have o1:=qq o1;obtain⟨n1,x1,e1⟩:=hf f (by simp);rw[o1,CQ f1]at e1;obtain⟨v1,r1,k1⟩:=(CX a).1 f.type n1 _ x1 f1 hp.1 e1;obtain⟨v2,r2,k2⟩:=(CX b).2 (g::h::r) (off+a.size) cs f2 hp.2 fun f' hf'=>hf f' (qo _ hf')
    exact join v1 v2 r1 r2 k1 k2
  refine⟨fun T vC cs x h1 hp h =>?_,fields⟩;obtain⟨fs,Yh⟩:=AC h1 (.inr (.inr ⟨a,b,rfl⟩));obtain⟨xs,n,_,_,hl,hn,hf⟩:=DataW.trod_struct Yh h;rw[CQ h1]at hl;have JU:fits P (.pair a b) (.inr (fs.toList,0))=true:=by
   rw[fits]at h1;split at h1
   ·rename_i i dd hi wM;rw[Yh]at wM;cases wM;simp only[qg]at h1;obtain⟨_,h1⟩:=h1;split at h1
    ·rename_i f g hl;rw[hl,fits.eq_2];simpa using h1
    ·rename_i f g h r hl;rw[hl,fits.eq_3];simpa using h1
    ·cases h1
   ·cases h1
  obtain⟨v,r,k⟩:=fields fs.toList 0 cs JU hp fun f hm=>by
   obtain⟨i,hi⟩:=xc.1 hm;have X2:=(qp.1 hi).1;have h0:=hf i f (by rw[←zh];exact hi);obtain⟨y,hy⟩:∃y,xs[i]?=some y:=⟨_,qr (by rw[hn];simpa using X2)⟩
   exact⟨n,y,h0.trans hy⟩
  rw[yz,zF (by omega)]at r;exact⟨v,r,k⟩
 | .arr m e=>by
  refine⟨fun T vC cs x h1 hp h =>?_,fun fs off cs h=>by simp[fits]at h⟩;obtain⟨E,hE,ZG⟩:=Aj h1;obtain⟨xs,n,_,_,hl,hn,hf⟩:=DataW.trod_array hE h;rw[CQ h1]at hl;obtain⟨l,pC,hR⟩:=y9l (n:=m) (R:=fun i (v:e.den)=>jB P e (Qt W) v ((cs.drop (i*e.size)).take e.size)∧Hy e v) fun i hi=>by
   have h0:=hf i hi;obtain⟨y,hy⟩:∃y,xs[i]?=some y:=⟨_,qr (by omega)⟩
   rw[hy,CQ ZG]at h0;exact(CX e).1 E n _ y ZG hp h0
  refine⟨fun i=>l.getD i e.dflt,⟨hl,fun i hi =>?_⟩,fun i hi =>?_⟩
  ·show jB P e (Qt W) (l.getD i e.dflt) _;rw[qC,qr (by omega),qO];exact(hR i (by omega)).1
  ·show Hy e (l.getD i e.dflt);rw[qC,qr (by omega),qO];exact(hR i (by omega)).2
 | .slice e=>by
  refine⟨fun T vC cs x h1 hp h =>?_,fun fs off cs h=>by simp[fits]at h⟩;simp only[XA,qg,qI]at hp;obtain⟨E,hE,ZG⟩:=Fy h1;rcases DataW.trod_slice hE h with⟨rfl,_⟩|⟨ad,len,cap,elems,rest,n,_,rfl,_,_,SS,OY,Xb,hf,_⟩
  ·exact⟨[],⟨_,rfl,.inl ⟨rfl,rfl⟩⟩,zz _,fun x hx=>by cases hx⟩
  ·by_cases h0:len=0
   ·subst h0;exact⟨[],⟨_,rfl,.inr (.inr ⟨ad,cap,rfl,rfl⟩)⟩,zz _,fun x hx=>by cases hx⟩
   ·have step:∀i,i<len→∃ci y,W.cells? 0 (ad.add (i*e.size)) e.size=some ci∧DataW.trod enc P W 0 sp BI n E ci=some y:=fun i hi=>by
     have Xq:=hf i hi;rw[qr (by omega),CQ ZG,qi]at Xq;obtain⟨ci,c1,c2⟩:=Xq;exact⟨ci,_,c1,c2⟩
    have A8:ad.spot=none:=by
     obtain⟨ci,y,c1,_⟩:=step 0 (by omega);obtain⟨_,c3,c4⟩:=World.cells?_some c1;have c5:=c4 0 hp.2;rw[qr (by omega)]at c5;have:=World.cell?_spot c5;rw[Nat.zero_mul]at this;simpa [Addr.add]using this
    obtain⟨bk,of,spt⟩:=ad;simp only at A8;subst A8;have DX:∀i ci,i<len→W.cells? 0 ((⟨bk,of,none⟩:Addr).add (i*e.size)) e.size=some ci→ci.length=e.size∧∀j,j<e.size→Qt W bk (of+(i*e.size+j))=ci[j]?:=fun i ci hi hc=>by
     obtain⟨_,c3,c4⟩:=World.cells?_some hc;refine⟨c3,fun j hj =>?_⟩;have:=c4 j hj;rw[Addr.add_mk,Addr.add_mk]at this;show W.cell? ⟨bk,of+(i*e.size+j),none⟩=_;rw[←xA];exact this
    let cells:List Value:=(List.range (len*e.size)).map fun j=>(Qt W bk (of+j)).getD undef
    have ZR:cells.length=len*e.size:=by simp[cells]
    have S5:∀j,j<len*e.size→∃u,Qt W bk (of+j)=some u∧cells[j]?=some u:=fun j hj=>by
     have S2:=Nat.div_add_mod j e.size;have hm:=Nat.mod_lt j hp.2;have hd:j / e.size<len:=(Nat.div_lt_iff_lt_mul hp.2).2 hj;obtain⟨ci,y,c1,_⟩:=step (j / e.size) hd;obtain⟨c2,c3⟩:=DX _ ci hd c1;have c4:=c3 (j%e.size) hm;rw[Nat.mul_comm,S2,qr (by omega)]at c4;refine⟨_,c4,?_⟩;show((List.range (len*e.size)).map fun j=>(Qt W bk (of+j)).getD undef)[j]?=_;simp[hj,c4]
    have pa:∀i ci,i<len→W.cells? 0 ((⟨bk,of,none⟩:Addr).add (i*e.size)) e.size=some ci→(cells.drop (i*e.size)).take e.size=ci:=fun i ci hi hc=>by
     obtain⟨c2,c3⟩:=DX i ci hi hc;refine yZ fun j =>?_
     rw[zb];split
     ·rename_i hj;rw[zd];have hlt:i*e.size+j<len*e.size:=by
       have:(i+1)*e.size≤len*e.size:=q9 _ hi;rw[zC,zZ]at this;omega
      obtain⟨u,u1,u2⟩:=S5 _ hlt;rw[u2,←u1];exact c3 j hj
     ·rw[zD (by omega)]
    obtain⟨l,pC,hR⟩:=y9l (n:=len) (R:=fun i (v:e.den)=>jB P e (Qt W) v ((cells.drop (i*e.size)).take e.size)∧Hy e v) fun i hi=>by
     obtain⟨ci,y,c1,c2⟩:=step i hi;rw[pa i ci hi c1];exact(CX e).1 E n ci y ZG hp.1 c2
    refine⟨l,⟨_,rfl,.inr (.inl ⟨bk,of,cap,cells,by rw[pC],by omega,by rw[pC];exact ZR,fun j u hj =>?_,fun i hi=>(hR i hi).1⟩)⟩,by rw[pC];omega,fun x hx =>?_⟩
    ·have hlt:=(qp.1 hj).1;obtain⟨u',u1,u2⟩:=S5 j (by omega);rw[u2]at hj;cases hj;exact u1
    ·obtain⟨i,hi⟩:=xc.1 hx;obtain⟨X2,rfl⟩:=qp.1 hi;exact(hR i X2).2
 |.unit=>⟨fun _ _ _ _ _ h=>by simp[XA]at h,fun _ _ _ _ h=>by simp[XA]at h⟩
 |.err=>⟨fun _ _ _ _ _ h=>by simp[XA]at h,fun _ _ _ _ h=>by simp[XA]at h⟩
 |.ptr _=>⟨fun _ _ _ _ _ h=>by simp[XA]at h,fun _ _ _ _ h=>by simp[XA]at h⟩
 |.fn _ _=>⟨fun _ _ _ _ _ h=>by simp[XA]at h,fun _ _ _ _ h=>by simp[XA]at h⟩
 |.seq _=>⟨fun _ _ _ _ _ h=>by simp[XA]at h,fun _ _ _ _ h=>by simp[XA]at h⟩
 |.mapT _ _=>⟨fun _ _ _ _ _ h=>by simp[XA]at h,fun _ _ _ _ h=>by simp[XA]at h⟩
end
end Go.Lift
namespace Go.Lift
open Go Go.RowKit Go.ChangeShapes
variable [wB] [Mf]
variable {P:Program}
theorem y8w{t:Ty}{T:TypeId}(h:fits P t (.inl T)=true)(hp:XA t=true):
  (t.agg=true∧((∃fs,P.underlying T=some (.struct fs))∨∃n e,P.underlying T=some (.array n e)))∨
  (t.agg=false∧((∃k,P.underlying T=some (.int k))∨P.underlying T=some .bool∨P.underlying T=some .string∨∃e,P.underlying T=some (.slice e))):=by
 cases t with
 |int k=>exact .inr ⟨rfl,.inl ⟨_,fits_int h⟩⟩
 |bool=>exact .inr ⟨rfl,.inr (.inl (fits_bool h))⟩
 |str=>exact .inr ⟨rfl,.inr (.inr (.inl (Ak h)))⟩
 |one t=>exact .inl ⟨rfl,.inl (AC h (.inr (.inl ⟨t,rfl⟩)))⟩
 |pair a b=>exact .inl ⟨rfl,.inl (AC h (.inr (.inr ⟨a,b,rfl⟩)))⟩
 |arr n e=>obtain⟨E,hE,_⟩:=Aj h;exact .inl ⟨rfl,.inr ⟨n,E,hE⟩⟩
 |slice e=>obtain⟨E,hE,_⟩:=Fy h;exact .inr ⟨rfl,.inr (.inr (.inr ⟨E,hE⟩))⟩
 |_=>simp[XA]at hp
theorem znz{t:Ty}{T:TypeId}(h:fits P t (.inl T)=true)(hp:XA t=true){M:Mem}{x:t.den}{v:Value}{w:World}{base:Nat}(jP:Value.okWide P w .any base T v)(hr:jB P t M x v.cells.toList):jz P t M x v:=by
 unfold jz Qd;rcases y8w h hp with⟨ha,hu⟩|⟨ha,hu⟩
 ·rw[qH ha];have:∃cs,v = .agg cs:=by
   unfold Value.okWide at jP;rcases hu with⟨fs,hu⟩|⟨n,e,hu⟩
   ·rw[hu]at jP;obtain⟨cs,h1,_⟩:=jP;exact⟨cs,h1⟩
   ·rw[hu]at jP;obtain⟨cs,h1,_⟩:=jP;exact⟨cs,h1⟩
  obtain⟨cs,rfl⟩:=this;exact⟨cs,rfl,hr⟩
 ·rw[qT (by rw[ha];decide)];have ju:∀cs,v ≠ .agg cs:=by
   rintro cs rfl;unfold Value.okWide at jP;rcases hu with⟨k,hu⟩|hu|hu|⟨e,hu⟩<;>rw[hu]at jP<;>simp[Cell.okWide,Cell.ok,hu]at jP
  have:v.cells=#[v]:=by
   cases v<;>first|rfl|exact absurd rfl (ju _)
  rw[this]at hr;exact hr
def Bm:(ts:List Ty)→vx ts→Prop
 |[],_=>True
 |[t],x=>Hy t x
 |t::u::r,x=>Hy t x.1∧Bm (u::r) x.2
def GA(P:Program):List TypeId→List Ty→Bool
 |[],[]=>true
 |T::Ts,t::ts=>fits P t (.inl T)&&XA t&&P.readableRec T&&decide (T<P.types.size)&&GA P Ts ts
 |_,_=>false
section
variable {H:Type} {enc:TypeId×Value→H} {W W':World}
theorem y5d:∀{Ts:List TypeId} {ts:List Ty} {vs:List Value} {ds:List (DataW H)} {ps:List MemPlace} {base:Nat},GA P Ts ts=true→(∀(j:Nat) T v,Ts[j]?=some T→vs[j]?=some v→Value.okWide P W .any base T v)→
  DataW.TrodAll enc P W 0 (fun _=>true) true Ts vs ds ps→∃x:vx ts,Kh P (Qt W) ts x vs∧Bm ts x∧ds.length=ts.length
 |[],[],[],[],_,_,_,_,_=>⟨(),rfl,True.intro,rfl⟩
 |[],[],[],_::_,_,_,_,_,h=>h.elim
 |[],[],_::_,_,_,_,_,_,h=>by cases h
 |[T],[t],[v],[d],ps,base,jP,Kq,h=>by
  simp only[GA,qg]at jP;obtain⟨⟨⟨⟨h1,h2⟩,_⟩,_⟩,_⟩:=jP;obtain⟨p,q,⟨vC,hf⟩,_,_⟩:=h;obtain⟨x,r,k⟩:=(CX t).1 T vC _ _ h1 h2 hf;exact⟨x,⟨v,rfl,znz h1 h2 (Kq 0 T v rfl rfl) r⟩,k,rfl⟩
 |T::T'::Ts,t::t'::ts,v::vs,d::ds,ps,base,jP,Kq,h=>by
  simp only[GA,qg]at jP;obtain⟨⟨⟨⟨h1,h2⟩,_⟩,_⟩,Zw⟩:=jP;obtain⟨p,q,⟨vC,hf⟩,hs,_⟩:=h;obtain⟨x,r,k⟩:=(CX t).1 T vC _ _ h1 h2 hf;obtain⟨xs,rs,ks,hl⟩:=y5d (Ts:=T'::Ts) (ts:=t'::ts) (vs:=vs) (ds:=ds) (ps:=q) (base:=base) (by simp only[GA,qg];exact Zw) (fun j T v hT hv=>Kq (j+1) T v hT hv) hs;exact⟨(x,xs),⟨v,vs,rfl,znz h1 h2 (Kq 0 T v rfl rfl) r,rs⟩,⟨k,ks⟩,by simp[hl]⟩
 |[],_::_,_,_,_,_,jP,_,_=>by simp[GA]at jP
 |_::_,[],_,_,_,_,jP,_,_=>by simp[GA]at jP
 |[_],_::_::_,_,_,_,_,jP,_,_=>by simp[GA]at jP
 |_::_::_,[_],_,_,_,_,jP,_,_=>by simp[GA]at jP
 |_::_,_::_,[],_,_,_,_,_,h=>h.elim
 |_::_,_::_,_::_,[],_,_,_,_,h=>h.elim
 |[_],[_],_::_::_,[_],_,_,_,_,⟨_,_,_,h,_⟩=>h.elim
 |[_],[_],[_],_::_::_,_,_,_,_,⟨_,_,_,h,_⟩=>h.elim
 |[_],[_],_::_::_,_::_::_,_,_,_,_,⟨_,_,_,h,_⟩=>h.elim
theorem y0y(hl:laidOutB P=true)(hb:Below W.heap.size W W'):∀{Ts:List TypeId} {ts:List Ty} {vs:List Value} {ds:List (DataW H)} {ps:List MemPlace},GA P Ts ts=true→(∀x∈ps,x.block<W.heap.size)→
  DataW.TrodAll enc P W 0 (fun _=>true) true Ts vs ds ps→DataW.TrodAll enc P W' 0 (fun b=>decide (b<W.heap.size)) true Ts vs ds ps
 |[],[],[],[],_,_,_,h=>h
 |[],[],[],_::_,_,_,_,h=>h.elim
 |[],[],_::_,_,_,_,_,h=>by cases h
 |T::Ts,t::ts,v::vs,d::ds,ps,jP,hlt,h=>by
  simp only[GA,qg,qI]at jP;obtain⟨⟨⟨⟨_,_⟩,h3⟩,h4⟩,Zw⟩:=jP;obtain⟨p,q,h1,h2,rfl⟩:=h;exact⟨p,q,Below.trod hl h3 h4 h1 hb (fun x hx=>hlt x (q8 _ hx)),y0y hl hb Zw (fun x hx=>hlt x (zx _ hx)) h2,rfl⟩
 |[],_::_,_,_,_,jP,_,_=>by simp[GA]at jP
 |_::_,[],_,_,_,jP,_,_=>by simp[GA]at jP
 |_::_,_::_,[],_,_,_,_,h=>h.elim
 |_::_,_::_,_::_,[],_,_,_,h=>h.elim
theorem y9m{s:ChangeSpec}{f:FuncId}{fn:Func}{ats:List Ty}{run:vx ats→Option Bool}{tb:TypeId}(hl:laidOutB P=true)(A5:s.vars=[])(h:Has P ⟨f,ats,[.bool],run⟩)(jP:GA P fn.params.toList ats=true)
  (ZD:fn.resultTypes=#[tb]) (A7:P.underlying tb=some .bool) (Oq:∀x,Bm ats x→run x=some true)
  (Dn:∀ds:List (DataW H),ds.length=ats.length→s.fn H ds={results:=[.lit (.bool true)],args:=ds}) {base:Nat} {args:Array Value} {ds gs:List (DataW H)} {Xw:List MemPlace}
  (Kq:∀(j:Nat) t v,fn.params[j]?=some t→args[j]?=some v→Value.okWide P W .any base t v) (hW:DataW.Whole enc P fn.params.toList s.vars false W args.toList ds gs Xw) (hT:wB.T (Qt W) W):
  Calls P f args W fun e W'=>∃v,e = .returned v∧s.post enc P fn false true false false W args v W':=by
 have hW0:=hW;obtain⟨p,q,hA,hV,rfl,hfz,ZF⟩:=hW;rw[A5]at hV;obtain⟨rfl,rfl⟩:=trodVars_none hV;obtain⟨x,hr,hx,S3⟩:=y5d (base:=base) jP (fun j t v h1 h2=>Kq j t v (by rw[←zh];exact h1) (by rw[←zh];exact h2)) hA;have hc:=h.2 x true (Oq x hx) (Qt W) W args.toList (ya1 W hT) hr;unfold CK at hc;simp only[yl]at hc;refine yT hc fun e W' he =>?_
 obtain⟨M',v,rfl,hv,_,hg⟩:=he;have hv:v = .bool true:=X8.1 hv;subst hv;refine⟨_,rfl,ds,[],p++[],[],p,[],hW0,?_,?_,?_,Below.frame hg.below _,fun hf=>by cases hf⟩
 ·rw[qL,Dn ds S3,ZD];exact trodAll_mk1 (shut_bool A7 true)
 ·rw[qL,Dn ds S3];exact y0y hl hg.below jP (fun x hx=>hW0.lt x (q8 _ hx)) hA
 ·rw[qL,Dn ds S3,A5];exact rfl
end
end Go.Lift
