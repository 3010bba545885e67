/-
  Keys of yards; how many yards there are; the search finds a plan of least work.
-/
import Derived.Test.YtggnjngdmadbaaaGreatDoorPlA
set_option linter.all false
namespace Go.Lift
open Go
def Jn(c:UInt8)(l:List UInt8):Prop:=∀b,b∈l→b≠c
theorem gK(c:UInt8)(x y:List UInt8)(r:List (List UInt8)):Lib.join (x::y::r) [c]=x++c::Lib.join (y::r) [c]:=by
 rw[Lib.join_cons,Lib.join_cons];simp[Lib.joinTail]
theorem y87{c:UInt8}:∀{a b u v:List UInt8},Jn c a→Jn c b→a++c::u=b++c::v→a=b∧u=v
 |[],[],u,v,_,_,h=>by simpa using h
 |[],z::b,u,v,_,hb,h=>by
  simp only[qP,qS,qM]at h;exact absurd h.1.symm (hb z (by simp))
 |z::a,[],u,v,ha,_,h=>by
  simp only[qP,qS,qM]at h;exact absurd h.1 (ha z (by simp))
 |z::a,z'::b,u,v,ha,hb,h=>by
  simp only[qS,qM]at h;obtain⟨h1,h2⟩:=y87 (fun x hx=>ha x (qo _ hx)) (fun x hx=>hb x (qo _ hx)) h.2;exact⟨by rw[h.1,h1],h2⟩
theorem ydn{c:UInt8}{a b u:List UInt8}(ha:Jn c a)(h:a=b++c::u):False:=ha c (by rw[h];simp) rfl
theorem TJ{c:UInt8}:∀{L K:List (List UInt8)},L≠[]→K≠[]→(∀x∈L,Jn c x)→(∀x∈K,Jn c x)→Lib.join L [c]=Lib.join K [c]→L=K
 |[],_,h,_,_,_,_=>absurd rfl h
 |_::_,[],_,h,_,_,_=>absurd rfl h
 |[x],[y],_,_,_,_,h=>by rw[jd,jd]at h;rw[h]
 |[x],y::y2::s,_,_,h1,_,h=>by
  rw[jd,gK]at h;exact(ydn (h1 x (by simp)) h).elim
 |x::x2::r,[y],_,_,_,h2,h=>by
  rw[jd,gK]at h;exact(ydn (h2 y (by simp)) h.symm).elim
 |x::x2::r,y::y2::s,_,_,h1,h2,h=>by
  rw[gK,gK]at h;obtain⟨e1,e2⟩:=y87 (h1 x (by simp)) (h2 y (by simp)) h;have:=TJ (List.cons_ne_nil x2 r) (List.cons_ne_nil y2 s) (fun z hz=>h1 z (qo _ hz)) (fun z hz=>h2 z (qo _ hz)) e2;rw[e1,this]
theorem PS{c:UInt8}{B:Nat}:∀{L:List (List UInt8)},(∀x∈L,x.length≤B)→(Lib.join L [c]).length≤L.length*(B+1)
 |[],_=>by rw[Lib.join_nil];simp
 |[x],h=>by
  rw[jd];have:=h x (by simp);simp only[qj,zZ];omega
 |x::y::r,h=>by
  rw[gK];have h1:=h x (by simp);have h2:=PS (c:=c) (L:=y::r) fun z hz=>h z (qo _ hz)
  rw[qe,qk,qk,zC,zZ];omega
theorem y4w{c b:UInt8}:∀{L:List (List UInt8)},b∈Lib.join L [c]→b=c∨∃x∈L,b∈x
 |[],h=>by rw[Lib.join_nil]at h;cases h
 |[x],h=>by rw[jd]at h;exact .inr ⟨x,by simp,h⟩
 | x::y::r,h=>by
  rw[gK]at h;rcases zB.1 h with h|h
  ·exact .inr ⟨x,by simp,h⟩
  ·rcases qF.1 h with h|h
   ·exact .inl h
   ·rcases y4w h with h|⟨z,hz,h⟩
    ·exact .inl h
    ·exact .inr ⟨z,qo _ hz,h⟩
theorem y4m{c:Int}:∀{l:List Int} {i:Nat},J0 i l=true→c∈l→∃j,nameAt j c=true
 |[],_,_,h=>by cases h
 |z::l,i,h,hc=>by
  simp only[J0,qg]at h;rcases qF.1 hc with rfl|hc
  ·exact⟨i,h.1⟩
  ·exact y4m h.2 hc
theorem L9{x:js}(h:Yl x=true){b:UInt8}(hb:b∈x.data.toList):b≠32∧b≠47:=by
 unfold Yl at h;rw[qg]at h;have hm:((b.toNat:Nat):Int)∈Zj x:=by
  unfold Zj;exact zG.2 ⟨b,hb,rfl⟩
 obtain⟨j,hj⟩:=y4m h.1 hm;unfold nameAt at hj;simp only[yh,qg,qI]at hj;constructor
 ·rintro rfl;have:((32:UInt8).toNat:Int)=32:=rfl;omega
 ·rintro rfl;have:((47:UInt8).toNat:Int)=47:=rfl;omega
def Kg(p:List js):List UInt8:=Lib.join (p.map (·.data.toList)) [32]
def Sf(p:List js):js:=⟨(Kg p).toArray⟩
def ZQ(y:vl):js:=⟨(Lib.join (y.map Kg) [47]).toArray⟩
theorem zp7:∀{p q:List js},p.map (·.data.toList)=q.map (·.data.toList)→p=q
 |[],[],_=>rfl
 |[],_::_,h=>by cases h
 |_::_,[],h=>by cases h
 |x::p,y::q,h=>by
  simp only[zl,qM]at h;rw[zp7 h.2,ByteArray.ext (Array.toList_inj.mp h.1)]
theorem y90{p q:List js}(hp:∀x∈p,Yl x=true)(hq:∀x∈q,Yl x=true)(h:Kg p=Kg q):p=q:=by
 have nn:∀{p:List js},(∀x∈p,Yl x=true)→p≠[]→Kg p≠[]:=fun{p} hp ju he=>by
  match p,ju with
  |x::r,_=>
   have hs:=(L8 (hp x (by simp))).1;have:(Kg (x::r)).length≥x.size:=by
    unfold Kg;rw[zl,Lib.join_cons,qe];have:x.data.toList.length=x.size:=rfl;omega
   rw[he,qR]at this;omega
 have ch:∀{p:List js},(∀x∈p,Yl x=true)→∀l∈p.map (·.data.toList),Jn 32 l:=fun{p} hp l hl b hb=>by
  obtain⟨x,hx,rfl⟩:=zG.1 hl;exact(L9 (hp x hx) hb).1
 by_cases h1:p=[]
 ·by_cases h2:q=[]
  ·rw[h1,h2]
  ·exact absurd (h.symm.trans (by rw[h1];rfl)) (nn hq h2)
 ·by_cases h2:q=[]
  ·exact absurd (h.trans (by rw[h2];rfl)) (nn hp h1)
  ·refine zp7 (TJ (by simpa using h1) (by simpa using h2) (ch hp) (ch hq) h)
theorem ybu{p:List js}(hp:∀x∈p,Yl x=true):Jn 47 (Kg p):=by
 intro b hb;unfold Kg at hb;rcases y4w hb with rfl|⟨l,hl,hb⟩
 ·decide
 ·obtain⟨x,hx,rfl⟩:=zG.1 hl;exact(L9 (hp x hx) hb).2
theorem IS:∀{y z:vl},(∀x∈y.flatten,Yl x=true)→(∀x∈z.flatten,Yl x=true)→y.map Kg=z.map Kg→y=z
 |[],[],_,_,_=>rfl
 |[],_::_,_,_,h=>by cases h
 |_::_,[],_,_,h=>by cases h
 |p::y,q::z,h1,h2,h=>by
  simp only[zl,qM]at h;simp only[yk,zB]at h1 h2;rw[y90 (fun x hx=>h1 x (.inl hx)) (fun x hx=>h2 x (.inl hx)) h.1,IS (fun x hx=>h1 x (.inr hx)) (fun x hx=>h2 x (.inr hx)) h.2]
theorem ycm{y z:vl}(hl:y.length=z.length)(h1:∀x∈y.flatten,Yl x=true)(h2:∀x∈z.flatten,Yl x=true)(h:ZQ y=ZQ z):y=z:=by
 by_cases h0:y=[]
 ·subst h0;exact(zn hl.symm).symm
 ·have h0':z≠[]:=fun e=>h0 (zn (by rw[hl,e];rfl))
  have e:Lib.join (y.map Kg) [47]=Lib.join (z.map Kg) [47]:=by
   have:=congrArg (fun b:js=>b.data.toList) h;simpa [ZQ]using this
  have no:∀{y:vl},(∀x∈y.flatten,Yl x=true)→∀l∈y.map Kg,Jn 47 l:=fun{y} hy l hl=>by
   obtain⟨p,hp,rfl⟩:=zG.1 hl;exact ybu fun x hx=>hy x (xy.2 ⟨p,hp,hx⟩)
  exact IS h1 h2 (TJ (by simpa using h0) (by simpa using h0') (no h1) (no h2) e)
theorem ycl{y:vl}(hy:y.length≤1000){g:List js→Option js}{f:List js→js}(hg:∀p∈y,g p=some (f p)):vz (S:=(List js)×Int) (R:=(List js)) (fun s=>
  let w:(List js):=s.1
  let t:Int:=s.2
  bif decide (t<(y.length:Int))then
   chk (decide ((0:Int)≤t)&&decide (t<(y.length:Int))) (
    (g (jt [] y t)).bind fun(jQ:js)=>
    (app w [jQ]).bind fun(vb:List js)=>
    some (.inl (vb,jv (t+1))))
  else
   some (.inr w)) ([],0)=some (y.map f):=by
 refine KH (X:=List js) (fun rest s=>∃pre,y=pre++rest∧s=(pre.map f,(pre.length:Int))) ?_ ?_ (l:=y) ⟨[],rfl,rfl⟩
 ·rintro x rest _ ⟨pre,h1,rfl⟩;have jH:=congrArg List.length h1;rw[qe,qk]at jH;have hx:jt [] y (pre.length:Int)=x:=by rw[h1];exact Yx
  refine Or.inl ⟨((pre++[x]).map f,((pre++[x]).length:Int)),?_,pre++[x],by rw[h1];simp,rfl⟩;simp only[];rw[jJ (show(pre.length:Int)<(y.length:Int) by omega),qv,Zy (wX (jJ (by omega)) rfl),hx,hg x (by rw[h1];simp),qh,Eb (by rw[qj,zg];omega),qh,Qj (by omega) (by omega),qe,qj,zv];rfl
 ·rintro _ ⟨pre,h1,rfl⟩;rw[qL]at h1;subst h1;simp only[];rw[vG (show ¬(y.length:Int)<(y.length:Int) by omega),qu]
theorem y48{p:List js}(hl:p.length≤8)(hs:∀x∈p,x.size≤20):(Kg p).length≤168:=by
 have:=PS (c:=32) (B:=20) (L:=p.map (·.data.toList)) fun l hl=>by
  obtain⟨x,hx,rfl⟩:=zG.1 hl;exact hs x hx
 rw[zg]at this;unfold Kg;omega
theorem oe{n:wC}{req:List js}(h:WE n.1 req):bW n=some (ZQ n.1):=by
 obtain⟨h1,_,h3⟩:=h;have hj:∀p∈n.1,strings_Join p (bytes [32])=some (Sf p):=fun p hp=>by
  have hk:=y48 (p:=p) (h3 p hp).1 (h3 p hp).2;have:=(h3 p hp).1;unfold strings_Join;rw[show(bytes [32]).data.toList=[32] from rfl,jJ (show p.length≤4294967296 by omega),jJ (show(Lib.join (p.map (·.data.toList)) [32]).length≤4294967296 by unfold Kg at hk;omega)];rfl
 unfold bW;rw[ycl (by omega) hj,qh];have e:(n.1.map Sf).map (·.data.toList)=n.1.map Kg:=by
  rw[List.map_map];refine kL fun p _ =>?_
  simp[Sf]
 have hl:(Lib.join (n.1.map Kg) [47]).length≤2000:=by
  have:=PS (c:=47) (B:=168) (L:=n.1.map Kg) fun l hl=>by
   obtain⟨p,hp,rfl⟩:=zG.1 hl;exact y48 (h3 p hp).1 (h3 p hp).2
  rw[zg]at this;have:n.1.length*169≤6*169:=q9 _ h1;omega
 unfold strings_Join;rw[show(bytes [47]).data.toList=[47] from rfl,e,jJ (show(n.1.map Sf).length≤4294967296 by rw[zg];omega),jJ (show(Lib.join (n.1.map Kg) [47]).length≤4294967296 by omega)];rfl
theorem L7{y:vl}(hy:y.length≤1000):∀l:List (Int×Int),HM y l=some (l.filter fun m=>Qb y m==0)
 |[]=>rfl
 |m::l=>by
  simp only[HM];rw[tO hy,qh,L7 hy l,qh];cases h:Qb y m==0 with
  |true=>rw[qv,List.filter_cons_of_pos (p:=fun m=>Qb y m==0) h]
  |false=>rw[qu,kX (p:=fun m=>Qb y m==0) (by rw[h];exact yg)]
def CF(y:vl):List (Int×Int):=(D7 y.length).filter fun m=>Qb y m==0
theorem Lh{y:vl}(hy:y.length≤1000):gy y=some (CF y):=by
 unfold gy;rw[jJ hy,qv,L7 hy];rfl
theorem L5{k:Nat}{m:Int×Int}:m∈D7 k↔∃a b:Nat,a<k∧b<k∧m=((a:Int),(b:Int)):=by
 unfold D7;simp only[jj,xp,zG];constructor
 ·rintro⟨a,ha,b,hb,rfl⟩;exact⟨a,b,ha,hb,rfl⟩
 ·rintro⟨a,b,ha,hb,rfl⟩;exact⟨a,ha,b,hb,rfl⟩
theorem y67(k:Nat):(D7 k).length=k*k:=by
 unfold D7;rw[List.length_flatMap];simp only[zg,List.length_range];rw[List.map_const'];simp
theorem sZ{y:vl}{a b:Nat}(ha:a<y.length)(hb:b<y.length):Qb y ((a:Int),(b:Int))=0↔0<(pl y a).length∧a≠b∧(pl y b).length<6:=by
 have e:Qb y ((a:Int),(b:Int))=(bif !G1 (a:Int) 0 ((y.length:Int)-1)||(!G1 (b:Int) 0 ((y.length:Int)-1)&&(b:Int) != -1)then 6 else bif ((pl y a).length:Int)==0 then 11 else bif (a:Int)==(b:Int)then 3 else bif (b:Int) != -1&&decide (((pl y b).length:Int)≥6)then 16 else 0):=rfl;rw[e];unfold G1;rw[jJ (show(0:Int)≤(a:Int)∧(a:Int)≤(y.length:Int)-1 by omega),jJ (show(0:Int)≤(b:Int)∧(b:Int)≤(y.length:Int)-1 by omega)];simp only[zi,zS,Bool.or_self,qu];have Qu:((b:Int) != -1)=true:=by rw[zP];omega
 rw[Qu,zJ];by_cases h1:(pl y a).length=0
 ·rw[h1];simp
 ·rw[show(((pl y a).length:Int)==0)=false by rw[qU];omega,qu];by_cases h2:a=b
  ·subst h2;rw[beq_self_eq_true,qv];simp
  ·rw[show((a:Int)==(b:Int))=false by rw[qU];omega,qu];by_cases h3:(pl y b).length<6
   ·rw[vG (show ¬((pl y b).length:Int)≥6 by omega),qu];simp only[true_iff];exact⟨by omega,h2,h3⟩
   ·rw[jJ (show((pl y b).length:Int)≥6 by omega),qv];simp only[show ¬((16:Int)=0) by decide,false_iff];omega
theorem bt{l:List js}(h:0<l.length):∃q x,l=q++[x]:=by
 have ju:l≠[]:=List.ne_nil_of_length_pos h;exact⟨l.dropLast,l.getLast ju,(List.dropLast_concat_getLast ju).symm⟩
theorem y6g{y:vl}{left:List js}{m:Int×Int}(h:m∈CF y):∃s',Stp (y,left) m s' 1:=by
 unfold CF at h;rw[yw,L5]at h;obtain⟨⟨a,b,ha,hb,rfl⟩,h2⟩:=h;rw[yo,sZ ha hb]at h2;obtain⟨h3,h4,h5⟩:=h2;obtain⟨q,x,hq⟩:=bt h3;exact⟨_,.mv hq hb h4 h5⟩
theorem y5r{y:vl}{left:List js}{m:Int×Int}{s':vr}(h:Stp (y,left) m s' 1):m∈CF y:=by
 cases h with
 |@mv _ _ q x a b hp hb JO hl=>
  have ha:=Gz hp;unfold CF;rw[yw,L5];refine⟨⟨a,b,ha,hb,rfl⟩,?_⟩;rw[yo,sZ ha hb];exact⟨by rw[hp,qe,qj];omega,JO,hl⟩
theorem y6h{names req:List js}{p:Nat}(hc:Cx names req p){s:vr}(hv:Vd names req p s):(CF s.1).length≤16:=by
 have h1:(CF s.1).length≤(D7 s.1.length).length:=kx _ _;rw[y67,hv.len]at h1;have:=xG hc.p4 hc.p4;omega
def EG(x:js):List js→List (List js)
 |[]=>[[x]]
 |z::p=>(x::z::p)::(EG x p).map (z :: ·)
def Jr(x:js):vl→List vl
 |[]=>[]
 |p::y=>(EG x p).map (· :: y)++(Jr x y).map (p :: ·)
def V3(p:Nat):List js→List vl
 |[]=>[List.replicate p []]
 |x::names=>(V3 p names).flatMap fun y=>y::Jr x y
theorem y0b(x:js):∀p:List js,(EG x p).length=p.length+1
 |[]=>rfl
 |z::p=>by simp only[EG,qk,zg,y0b x p]
theorem y4y(x:js):∀y:vl,(Jr x y).length=y.flatten.length+y.length
 |[]=>rfl
 |p::y=>by
  simp only[Jr,qe,zg,y0b,y4y x y,yk,qk];omega
theorem LX{x:js}:∀{p q:List js},q∈EG x p→q.length=p.length+1
 |[],q,h=>by simp only[EG,qE]at h;rw[h];rfl
 |z::p,q,h=>by
  simp only[EG,qF,zG]at h;rcases h with rfl|⟨r,hr,rfl⟩
  ·rfl
  ·simp only[qk,LX hr]
theorem y09{x:js}:∀{y z:vl},z∈Jr x y→z.length=y.length∧z.flatten.length=y.flatten.length+1
 |[],z,h=>by cases h
 | p::y,z,h=>by
  simp only[Jr,zB,zG]at h;rcases h with⟨q,hq,rfl⟩|⟨w,hw,rfl⟩
  ·refine⟨rfl,?_⟩;simp only[yk,qe,LX hq];omega
  ·obtain⟨h1,h2⟩:=y09 hw;refine⟨by simp[h1],?_⟩;simp only[yk,qe,h2];omega
theorem Ua{p:Nat}:∀{names:List js} {y:vl},y∈V3 p names→y.length=p∧y.flatten.length≤names.length
 |[],y,h=>by
  simp only[V3,qE]at h;subst h;refine⟨List.length_replicate,?_⟩;rw[List.flatten_replicate_nil];exact ql _
 | x::names,y,h=>by
  simp only[V3,jj,qF]at h;obtain⟨z,hz,rfl|h⟩:=h
  ·obtain⟨h1,h2⟩:=Ua hz;exact⟨h1,by rw[qk];omega⟩
  ·obtain⟨h1,h2⟩:=Ua hz;obtain⟨h3,h4⟩:=y09 h;exact⟨by omega,by rw[qk];omega⟩
def B3(p:Nat):Nat→Nat
 |0=>1
 |n+1=>B3 p n*(n+p+1)
theorem LP{X Y:Type}{f:X→List Y}{B:Nat}:∀{l:List X},(∀x∈l,(f x).length≤B)→(l.flatMap f).length≤l.length*B
 |[],_=>zz _
 |x::l,h=>by
  have h1:=h x (by simp);have h2:=LP (l:=l) fun z hz=>h z (qo _ hz)
  rw[xL,qe,qk,zC,zZ];omega
theorem y5g{p:Nat}:∀names:List js,(V3 p names).length≤B3 p names.length
 |[]=>ql _
 | x::names=>by
  have h1:(V3 p (x::names)).length≤(V3 p names).length*(names.length+p+1):=LP fun y hy=>by
   obtain⟨h1,h2⟩:=Ua hy;rw[qk,y4y];omega
  exact ze h1 (q9 _ (y5g names))
theorem yfx{p n:Nat}(hp:p≤4)(hn:n≤6):B3 p n≤151200:=by
 have key:∀p:Fin 5,∀n:Fin 7,B3 p.val n.val≤151200:=by decide
 exact key ⟨p,by omega⟩ ⟨n,by omega⟩
theorem yb3{x:js}{p:List js}(h:x∉p):FR [x] p=p:=yb4 fun z hz e=>h (by rw[qE]at e;rw[←e];exact hz)
theorem y19{x:js}{p:List js}:FR [x] (x::p)=FR [x] p:=by
 unfold FR;rw[kX];rw[WZ.2 (by simp)];exact yg
theorem y7k{x z:js}{p:List js}(h:x≠z):FR [x] (z::p)=z::FR [x] p:=by
 unfold FR;rw[List.filter_cons_of_pos];cases e:hasB [x] z with
 |false=>rfl
 |true=>exact absurd (qE.1 (WZ.1 e)).symm h
theorem y0a{x:js}:∀{p:List js},p.Nodup→x∈p→p∈EG x (FR [x] p)
 |[],_,h=>by cases h
 | z::p,hn,h=>by
  rw[z6]at hn;by_cases e:x=z
  ·subst e;rw[y19,yb3 hn.1];cases p with
   |nil=>simp[EG]
   |cons u r=>simp[EG]
  ·have hx:x∈p:=(qF.1 h).resolve_left e;rw[y7k e];simp only[EG,qF,zG];exact .inr ⟨p,y0a hn.2 hx,rfl⟩
theorem y4x{x:js}:∀{y:vl},y.flatten.Nodup→x∈y.flatten→y∈Jr x (y.map (FR [x]))
 |[],_,h=>by cases h
 | p::y,hn,h=>by
  rw[yk]at hn h;rw[yj]at hn;simp only[zl,Jr,zB,zG];by_cases hp:x∈p
  ·left;refine⟨p,y0a hn.1 hp,?_⟩;rw[tj fun z hz e =>?_];rw[qE]at e;exact hn.2.2 x hp z hz e.symm
  ·right;have hy:x∈y.flatten:=(zB.1 h).resolve_left hp;exact⟨y,by exact y4x hn.2.1 hy,by rw[yb3 hp]⟩
theorem Tv{p:Nat}:∀{names:List js} {y:vl},y.length=p→y.flatten.Nodup→(∀x∈y.flatten,x∈names)→y∈V3 p names
 |[],y,hl,_,hs=>by
  simp only[V3,qE];rw[List.eq_replicate_iff];refine⟨hl,fun q hq =>?_⟩;cases q with
  |nil=>rfl
  |cons z q=>exact absurd (hs z (xy.2 ⟨_,hq,by simp⟩)) (by simp)
 | x::names,y,hl,hn,hs=>by
  simp only[V3,jj,qF];by_cases hx:x∈y.flatten
  ·have e:(y.map (FR [x])).flatten=FR [x] y.flatten:=by
    unfold FR;rw[List.filter_flatten]
   refine⟨y.map (FR [x]),Tv (by rw[zg];exact hl) (by rw[e];exact hn.filter _) ?_,.inr (y4x hn hx)⟩;intro z hz;rw[e]at hz;unfold FR at hz;rw[yw]at hz;rcases qF.1 (hs z hz.1)with rfl|h
   ·have:=hz.2;rw[WZ.2 (by simp)]at this;cases this
   ·exact h
  ·refine⟨y,Tv hl hn fun z hz =>?_,.inl rfl⟩;rcases qF.1 (hs z hz)with rfl|h
   ·exact absurd hz hx
   ·exact h
theorem y9q{names req:List js}{p:Nat}(hc:Cx names req p){done:List js}(hn:done.Nodup)(hd:∀s∈done,∃y:vl,y.length=p∧y.flatten.Nodup∧(∀x∈y.flatten,x∈names)∧s=ZQ y):done.length≤151200:=by
 have h1:done.length≤((V3 p names).map ZQ).length:=yX hn fun s hs=>by
  obtain⟨y,e1,e2,e3,rfl⟩:=hd s hs;exact zG.2 ⟨y,Tv e1 e2 e3,rfl⟩
 rw[zg]at h1;exact ze h1 (ze (y5g names) (yfx hc.p4 hc.nl))
theorem y6o{ps qs:jY}{k:Int}:QX (ps++qs) k=QX ps k++QX qs k:=by
 unfold QX;rw[List.filter_append,zv]
theorem AA{ps:jY}{k:Int}{n:wC}:n∈QX ps k↔(k,n)∈ps:=by
 unfold QX;rw[zG];constructor
 ·rintro⟨⟨j,m⟩,h,rfl⟩;rw[yw,yo]at h;obtain⟨h1,rfl⟩:=h;exact h1
 ·intro h;exact⟨(k,n),yw.2 ⟨h,beq_self_eq_true _⟩,rfl⟩
theorem y0j:∀(l:jY) (a:Int),a≤l.foldl (fun m e=>max m e.1) a∧∀e∈l,e.1≤l.foldl (fun m e=>max m e.1) a
 |[],a=>⟨jp _,fun e h=>by cases h⟩
 |x::l,a=>by
  rw[List.foldl_cons];obtain⟨h1,h2⟩:=y0j l (max a x.1);refine⟨by omega,fun e he =>?_⟩;rcases qF.1 he with rfl|he
  ·omega
  ·exact h2 e he
theorem ych{ps:jY}{e:Int×wC}(h:e∈ps):e.1≤Xx ps:=(y0j ps 0).2 e h
structure B5 (names req:List js) (p:Nat) (y0:vl) (n:wC):Prop where
 vd:Vd names req p (wg n)
 run:∃w:Nat,Run (y0,req) n.2.2.1 (wg n) w∧n.2.2.2=(w:Int)∧n.2.2.1.length+n.2.1.length=w+req.length
 nrm:nY (wg n)
def Exp(ps:jY)(n:wC):Prop:=∀m s1,Stp (wg n) m s1 1→∃e∈ps,wg e.2=tS s1∧e.2.2.2.2=n.2.2.2+1
def Prd(ps:jY)(e:Int×wC):Prop:=e.2.2.1≠[]∧∃e'∈ps,wg e'.2=wg e.2∧e'.1≤e.1∧Exp ps e'.2
theorem Exp.mono{ps qs:jY}{n:wC}(h:Exp ps n)(hs:∀e∈ps,e∈qs):Exp qs n:=fun m s1 hm=>by
 obtain⟨e,he,h1,h2⟩:=h m s1 hm;exact⟨e,hs e he,h1,h2⟩
theorem Prd.mono{ps qs:jY}{e:Int×wC}(h:Prd ps e)(hs:∀e∈ps,e∈qs):Prd qs e:=by
 obtain⟨h0,e',h1,h2,h3,h4⟩:=h;exact⟨h0,e',hs e' h1,h2,h3,h4.mono hs⟩
structure Inv (names req:List js) (p:Nat) (y0:vl) (k:Int) (i:Nat) (ps:jY) (done:List js):Prop where
 ok:∀e∈ps,B5 names req p y0 e.2∧e.1=e.2.2.2.2+(hS (wg e.2):Int)∧e.2.2.2.2≤(done.length:Int)
 dn:done.Nodup
 dk:∀s∈done,∃e∈ps,ZQ e.2.1=s∧e.1≤k∧Exp ps e.2
 lo:∀e∈ps,e.1<k→Prd ps e
 at_:∀j n,j<i→(QX ps k)[j]?=some n→Prd ps (k,n)
 st:∃e∈ps,wg e.2=tS (y0,req)∧e.2.2.2.2=0
 ln:ps.length≤1+16*done.length
theorem Inv.keys{names req:List js}{p:Nat}{y0:vl}{k:Int}{i:Nat}{ps:jY}{done:List js}(hc:Cx names req p)(h:Inv names req p y0 k i ps done):done.length≤151200:=by
 refine y9q hc h.dn fun s hs =>?_
 obtain⟨e,he,h1,_⟩:=h.dk s hs;have hv:=(h.ok e he).1.vd;exact⟨e.2.1,hv.len,hv.nd,hv.sub,h1.symm⟩
theorem y06{names req:List js}{p:Nat}(hc:Cx names req p){n n':wC}(h1:Vd names req p (wg n))(h2:Vd names req p (wg n'))(h:ZQ n.1=ZQ n'.1):wg n=wg n':=by
 have hy:n.1=n'.1:=ycm (h1.len.trans h2.len.symm) (fun x hx=>hc.nm x (h1.sub x hx)) (fun x hx=>hc.nm x (h2.sub x hx)) h;have hl:n.2.1=n'.2.1:=h1.left.trans (by rw[show(wg n).1=(wg n').1 from hy];exact h2.left.symm);show(n.1,n.2.1)=(n'.1,n'.2.1)
 rw[hy,hl]
theorem y8r{names req:List js}{p:Nat}(hc:Cx names req p){y0:vl}{n:wC}{ps:jY}{w:Nat}(hv:Vd names req p (wg n))(hr:Run (y0,req) n.2.2.1 (wg n) w)(hw:n.2.2.2=(w:Int))(hl:n.2.2.1.length+n.2.1.length=w+req.length)(hb:w≤200000)(hp:ps.length≤100000000):
  ∃t,XW ps n=some (ps++[(t.2.2.2+(hS (wg t):Int),t)])∧B5 names req p y0 t∧wg t=tS (wg n)∧t.2.2.2=(w:Int):=by
 have h6:=hc.rl;obtain⟨l,h1,h2,h3⟩:=yba hc hv (by omega) (by omega);have Vc:=hv.run hc.rn h2;have hh:=rS hc Vc;have Zd:wg ((tS (wg n)).1,(tS (wg n)).2,n.2.2.1++l,n.2.2.2)=tS (wg n):=rfl;have HE:=yd4 hc Vc;refine⟨((tS (wg n)).1,(tS (wg n)).2,n.2.2.1++l,n.2.2.2),?_,⟨Vc,⟨w,?_,hw,?_⟩,UA _⟩,Zd,hw⟩
 ·unfold XW;rw[h1,qh];simp only;rw[HE,qh];have hh':(Xd (tS (wg n)).2 (tS (wg n)).1).length≤6:=hh;rw[jJ (show 0≤n.2.2.2 by omega),jJ (show n.2.2.2≤4294967296 by omega),jJ hp,jJ (show(Xd (tS (wg n)).2 (tS (wg n)).1).length≤1000000 by omega)];rfl
 ·exact hr.append h2
 ·simp only[qe];omega
theorem Lm{names req:List js}{p:Nat}(hc:Cx names req p){y0:vl}{n:wC}(hn:B5 names req p y0 n)(hb:n.2.2.2≤151200):∀{ms:List (Int×Int)} {ps:jY},(∀m∈ms,∃s1,Stp (wg n) m s1 1)→ps.length+ms.length≤100000000→
  ∃FI,HL n ms ps=some (ps++FI)∧FI.length=ms.length∧(∀e∈FI,B5 names req p y0 e.2∧e.1=e.2.2.2.2+(hS (wg e.2):Int)∧e.2.2.2.2=n.2.2.2+1∧n.2.2.2+(hS (wg n):Int)≤e.1)∧∀m∈ms,∀s1,Stp (wg n) m s1 1→∃e∈FI,wg e.2=tS s1∧e.2.2.2.2=n.2.2.2+1
 |[],ps,_,_=>⟨[],by simp[HL],rfl,fun e h=>(by cases h),fun m h=>(by cases h)⟩
 | m::ms,ps,pu,hl=>by
  obtain⟨s1,hs⟩:=pu m (by simp);obtain⟨w,r1,r2,r3⟩:=hn.run;have h6:=hc.rl;have Jy:=PW hc hn.vd hs (by omega) (by omega);have Q4:=hn.vd.stp hc.rn hs;have XE:s1.2.length=n.2.1.length:=by
   generalize Zd:wg n=st at hs;cases hs with
   |@mv y left q x a b _ _ _ _=>
    have:n.2.1=left:=congrArg Prod.snd Zd;rw[this]
  obtain⟨t,t1,t2,t3,t4⟩:=y8r hc (n:=(s1.1,s1.2,n.2.2.1++[m],n.2.2.2+((1:Nat):Int))) (ps:=ps) (w:=w+1) (y0:=y0) Q4 (r1.append (Run.one hs)) (by show n.2.2.2+((1:Nat):Int)=_;omega) (by simp only[qe,qj];omega) (by omega) (by simp only[qk]at hl;omega);obtain⟨FI,g1,g2,g3,g4⟩:=Lm hc hn hb (ms:=ms) (ps:=ps++[(t.2.2.2+(hS (wg t):Int),t)]) (fun m' h'=>pu m' (qo _ h')) (by simp only[qe,qk,qR]at hl⊢;omega);have v6:t.2.2.2=n.2.2.2+1:=by rw[t4,r2];omega
  have hh:hS (wg n)≤1+hS (wg t):=by
   have e1:=Pz hn.vd.nd hs;obtain⟨l,e2,_⟩:=bg s1;have e3:=Py hc.rn Q4 e2;rw[t3];show hS (wg n)≤1+hS (tS s1);omega
  refine⟨(t.2.2.2+(hS (wg t):Int),t)::FI,?_,by simp[g2],?_,?_⟩
  ·simp only[HL];rw[Jy,qh,t1,qh,g1,zM];rfl
  ·intro e he;rcases qF.1 he with rfl|he
   ·exact⟨t2,rfl,v6,by show _≤t.2.2.2+_;omega⟩
   ·exact g3 e he
  ·intro m' hm' s1' hs';rcases qF.1 hm' with rfl|hm'
   ·obtain⟨e,_⟩:=hs.det hs';subst e;exact⟨_,zR,t3,v6⟩
   ·obtain⟨e,he,h1,h2⟩:=g4 m' hm' s1' hs';exact⟨e,qo _ he,h1,h2⟩
theorem TG{names req:List js}{p:Nat}(hc:Cx names req p){y0:vl}{k:Int}{i:Nat}{ps:jY}{done:List js}(h:Inv names req p y0 k i ps done){n:wC}(hn:(QX ps k)[i]?=some n)(h0:n.2.1≠[])(hs:ZQ n.1∈done):Inv names req p y0 k (i+1) ps done:=by
 refine⟨h.ok,h.dn,h.dk,h.lo,fun j n' hj G9 =>?_,h.st,h.ln⟩;by_cases e:j=i
 ·subst e;rw[hn]at G9;cases G9;obtain⟨e,he,h1,h2,h3⟩:=h.dk _ hs;have vu:(k,n)∈ps:=AA.1 (qK hn);exact⟨h0,e,he,y06 hc (h.ok e he).1.vd (h.ok _ vu).1.vd h1,h2,h3⟩
 ·exact h.at_ j n' (by omega) G9
theorem TH{names req:List js}{p:Nat}(hc:Cx names req p){y0:vl}{k:Int}{i:Nat}{ps:jY}{done:List js}(h:Inv names req p y0 k i ps done){n:wC}(hn:(QX ps k)[i]?=some n)(h0:n.2.1≠[])(hs:ZQ n.1∉done):
  ∃qs,HL n (CF n.1) ps=some qs∧Inv names req p y0 k (i+1) qs (ZQ n.1::done):=by
 have vu:(k,n)∈ps:=AA.1 (qK hn);obtain⟨ZF,hk,hw⟩:=h.ok _ vu;simp only at ZF hk hw;have ao:=h.keys hc;have px:=y6h hc ZF.vd;have pB:=h.ln;obtain⟨FI,g1,g2,g3,g4⟩:=Lm hc ZF (by omega) (ms:=CF n.1) (ps:=ps) (fun m hm=>y6g hm) (by simp only at px;omega);have Ju:∀e∈ps,e∈ps++FI:=fun e he=>q8 _ he
 have ri:Exp (ps++FI) n:=fun m s1 hm=>by
  obtain⟨e,he,h1,h2⟩:=g4 m (y5r hm) s1 hm;exact⟨e,zx _ he,h1,h2⟩
 refine⟨ps++FI,g1,fun e he =>?_,z6.2 ⟨hs,h.dn⟩,fun s hs' =>?_,fun e he hlt =>?_,fun j n' hj G9 =>?_,?_,?_⟩
 ·rcases zB.1 he with he|he
  ·obtain⟨a1,a2,a3⟩:=h.ok e he;exact⟨a1,a2,by rw[qk];omega⟩
  ·obtain⟨a1,a2,a3,a4⟩:=g3 e he;exact⟨a1,a2,by rw[qk];omega⟩
 ·rcases qF.1 hs' with rfl|hs'
  ·exact⟨(k,n),Ju _ vu,rfl,jp _,ri⟩
  ·obtain⟨e,he,a1,a2,a3⟩:=h.dk s hs';exact⟨e,Ju _ he,a1,a2,a3.mono Ju⟩
 ·rcases zB.1 he with he|he
  ·exact(h.lo e he hlt).mono Ju
  ·obtain⟨a1,a2,a3,a4⟩:=g3 e he;omega
 ·have X2:=(qp.1 hn).1;rw[y6o,zf (by omega)]at G9;by_cases e:j=i
  ·subst e;rw[hn]at G9;cases G9;exact⟨h0,(k,n),Ju _ vu,rfl,jp _,ri⟩
  ·exact(h.at_ j n' (by omega) G9).mono Ju
 ·obtain⟨e,he,a1,a2⟩:=h.st;exact⟨e,Ju _ he,a1,a2⟩
 ·simp only at px;rw[qe,qk];omega
theorem ycp{names req:List js}{p:Nat}{y0:vl}{k:Int}{i:Nat}{ps:jY}{done:List js}(h:Inv names req p y0 k i ps done)(hi:(QX ps k).length≤i):Inv names req p y0 (k+1) 0 ps done:=by
 refine⟨h.ok,h.dn,fun s hs =>?_,fun e he hlt =>?_,fun j n hj=>by omega,h.st,h.ln⟩
 ·obtain⟨e,he,a1,a2,a3⟩:=h.dk s hs;exact⟨e,he,a1,by omega,a3⟩
 ·by_cases hk:e.1<k
  ·exact h.lo e he hk
  ·have e1:e=(k,e.2):=by
    have:e.1=k:=by omega
    rw[←this]
   rw[e1]at he⊢;obtain⟨j,hj,et⟩:=xh.1 (AA.2 he);exact h.at_ j e.2 (by omega) (by rw[qr hj,et])
theorem gone{names req:List js}{p:Nat}(hc:Cx names req p){y0:vl}{k:Int}{i:Nat}{ps:jY}{done:List js}(h:Inv names req p y0 k i ps done){K:Int}(hK:∀e∈ps,e.1<K→Prd ps e){t:vr}{w:Nat}(hr:TRun (tS (y0,req)) t w):(w:Int)+(hS t:Int)<K→∃e∈ps,wg e.2=t∧e.2.2.2.2≤(w:Int):=by
 induction hr with
 |nil=>
  intro _;obtain⟨e,he,h1,h2⟩:=h.st;exact⟨e,he,h1,by omega⟩
 |@snoc t t' w hr hs ih=>
  intro hlt;obtain⟨m,s1,XD,rfl⟩:=hs;have hv:Vd names req p t∧True:=by
   obtain⟨e,he,h1,h2⟩:=h.st;have H5:=(h.ok e he).1.vd;rw[h1]at H5;clear hlt ih XD;induction hr with
   |nil=>exact⟨H5,trivial⟩
   |snoc hr hs ih=>
    obtain⟨m,s1,h1,rfl⟩:=hs;obtain⟨l,h2,_⟩:=bg s1;exact⟨(ih.1.stp hc.rn h1).run hc.rn h2,trivial⟩
  have e1:=Pz hv.1.nd XD;obtain⟨l,e2,_⟩:=bg s1;have e3:=Py hc.rn (hv.1.stp hc.rn XD) e2;obtain⟨e,he,h1,h2⟩:=ih (by omega);obtain⟨_,hk,_⟩:=h.ok e he;rw[h1]at hk;obtain⟨_,e',FU,g1,g2,g3⟩:=hK e he (by omega);obtain⟨_,wb,_⟩:=h.ok e' FU;rw[g1,h1]at wb;rw[h1]at g1;obtain⟨e'',OP,f1,f2⟩:=g3 m s1 (by rw[g1];exact XD);exact⟨e'',OP,f1,by omega⟩
def gj(req:List js)(y0:vl)(r:List (Int×Int)×Bool):Prop:=
 (r.2=true→∃s' w,Run (y0,req) r.1 s' w∧s'.2=[]∧r.1.length=w+req.length∧∀l s c,Run (y0,req) l s c→s.2=[]→w≤c)∧
 (r.2=false→r.1=[]∧∀l s c,Run (y0,req) l s c→s.2≠[])
theorem tT{names req:List js}{p:Nat}(hc:Cx names req p){y0:vl}{k:Int}{N:Nat}{ps:jY}{done:List js}{i:Nat}{r:(jY×List js)⊕List (Int×Int)}(hr:Fu k N ps done i r):Inv names req p y0 k i ps done→
  (∀qs d,r = .inl (qs,d)→Inv names req p y0 (k+1) 0 qs d)∧∀l,r = .inr l→∃qs d i' n,Inv names req p y0 k i' qs d∧(k,n)∈qs∧n.2.1=[]∧n.2.2.1=l:=by
 induction hr with
 |stop h=>
  intro hi;exact⟨fun qs d e=>(by cases e;exact ycp hi h),fun l e=>(by cases e)⟩
 |@goal N ps done i n h1 h2=>
  intro hi;exact⟨fun qs d e=>(by cases e),fun l e=>by cases e;exact⟨ps,done,i,n,hi,AA.1 (qK h1),h2,rfl⟩⟩
 |@skip N ps done i n s r h1 h2 h3 h4 _ ih=>
  intro hi;have hv:=(hi.ok _ (AA.1 (qK h1))).1.vd;rw[oe (hv.few hc)]at h3;cases h3;exact ih (TG hc hi h1 h2 h4)
 |@turn N ps qs done i n s ms r h1 h2 h3 h4 h5 h6 h7 _ ih=>
  intro hi;have hv:=(hi.ok _ (AA.1 (qK h1))).1.vd;rw[oe (hv.few hc)]at h3;cases h3;have jH:=hv.len;have pb:=hc.p4;rw[Lh (by simp only at jH;omega)]at h6;cases h6;obtain⟨qs',g1,g2⟩:=TH hc hi h1 h2 h4;rw[g1]at h7;cases h7;exact ih g2
theorem zzc{names req:List js}{p:Nat}(hc:Cx names req p){y0:vl}(H5:Vd names req p (y0,req)){N:Nat}{ps:jY}{done:List js}{k:Nat}{r:List (Int×Int)×Bool}(hr:Ab N ps done k r):Inv names req p y0 (k:Int) 0 ps done→gj req y0 r:=by
 induction hr with
 |@stop N ps done k hlt=>
  intro hi;refine⟨fun e=>(by cases e),fun _=>⟨rfl,fun l s c hl h0 =>?_⟩⟩;obtain⟨t',j,h1,h2,h3⟩:=cR hc.rn hl H5 h0;have ZU:∀e∈ps,Prd ps e:=fun e he=>hi.lo e he (by have:=ych he;omega)
  obtain⟨e,he,g1,g2⟩:=gone hc hi (K:=(j:Int)+(hS t':Int)+1) (fun e he _=>ZU e he) h1 (by omega);have:e.2.2.1=[]:=by
   have:=congrArg Prod.snd g1;exact this.trans h3
  exact(ZU e he).1 this
 |@goal N K ps done k l jL wy=>
  intro hi;obtain⟨qs,d,i',n,h1,h2,h3,rfl⟩:=(tT hc wy hi).2 _ rfl;obtain⟨ZF,hk,_⟩:=h1.ok _ h2;obtain⟨w,r1,r2,r3⟩:=ZF.run;simp only at hk r1 r2 r3;have hz:hS (wg n)=0:=by
   show hL n.2.1 n.1=0;rw[h3];exact Px _
  refine⟨fun _=>⟨wg n,w,r1,h3,by rw[h3,qR]at r3;omega,fun l s c hl h0 =>?_⟩,fun e=>by cases e⟩;obtain⟨t',j,f1,f2,f3⟩:=cR hc.rn hl H5 h0;have Bw:hS t'=0:=by
   show hL t'.2 t'.1=0;rw[f3];exact Px _
  rcases z7 c w with hlt|hge
  ·exfalso;obtain⟨e,he,g1,g2⟩:=gone hc h1 (K:=(k:Int)) h1.lo f1 (by omega);obtain⟨_,VR,_⟩:=h1.ok e he;rw[g1]at VR;have:e.2.2.1=[]:=by
    have:=congrArg Prod.snd g1;exact this.trans f3
   exact(h1.lo e he (by omega)).1 this
  ·exact hge
 |@next N K ps qs done done' k r jL wy _ ih=>
  intro hi;have:=(tT hc wy hi).1 _ _ rfl;exact ih (by rw[show((k+1:Nat):Int)=(k:Int)+1 by omega];exact this)
theorem zqf{names req:List js}{p:Nat}(hc:Cx names req p){y0:vl}{k:Int}:∀(u:Nat) {ps:jY} {done:List js},151200-done.length≤u→∀(j:Nat) {i:Nat},(QX ps k).length-i≤j→Inv names req p y0 k i ps done→∃N r,Fu k N ps done i r:=by
 intro u;induction u with
 |zero=>
  intro ps done hu j;induction j with
  |zero=>intro i hj hi;exact⟨0,_,.stop (by omega)⟩
  |succ j ih=>
   intro i hj hi;rcases z7 i (QX ps k).length with hlt|hge
   ·have hn:=qr hlt;generalize (QX ps k)[i]=n at hn;have hv:=(hi.ok _ (AA.1 (qK hn))).1.vd;by_cases h0:n.2.1=[]
    ·exact⟨0,_,.goal hn h0⟩
    ·by_cases hs:ZQ n.1∈done
     ·obtain⟨N,r,h⟩:=ih (i:=i+1) (by omega) (TG hc hi hn h0 hs);exact⟨N+1,r,.skip hn h0 (oe (hv.few hc)) hs h⟩
     ·exfalso;obtain⟨qs,g1,g2⟩:=TH hc hi hn h0 hs;have:=g2.keys hc;rw[qk]at this;omega
   ·exact⟨0,_,.stop hge⟩
 |succ u ihu=>
  intro ps done hu j;induction j with
  |zero=>intro i hj hi;exact⟨0,_,.stop (by omega)⟩
  |succ j ih=>
   intro i hj hi;rcases z7 i (QX ps k).length with hlt|hge
   ·have hn:=qr hlt;generalize (QX ps k)[i]=n at hn;have hv:=(hi.ok _ (AA.1 (qK hn))).1.vd;by_cases h0:n.2.1=[]
    ·exact⟨0,_,.goal hn h0⟩
    ·by_cases hs:ZQ n.1∈done
     ·obtain⟨N,r,h⟩:=ih (i:=i+1) (by omega) (TG hc hi hn h0 hs);exact⟨N+1,r,.skip hn h0 (oe (hv.few hc)) hs h⟩
     ·obtain⟨qs,g1,g2⟩:=TH hc hi hn h0 hs;have Eu:=g2.keys hc;obtain⟨N,r,h⟩:=ihu (ps:=qs) (done:=ZQ n.1::done) (by rw[qk]at Eu⊢;omega) _ (ql _) g2;have jH:=hv.len;have pb:=hc.p4;have:=hi.keys hc;exact⟨N+1,r,.turn hn h0 (oe (hv.few hc)) hs (by omega) (Lh (by simp only at jH;omega)) g1 h⟩
   ·exact⟨0,_,.stop hge⟩
theorem IT{k:Int}{N:Nat}{ps:jY}{done:List js}{i:Nat}{r:(jY×List js)⊕List (Int×Int)}(hr:Fu k N ps done i r):∀qs d,r = .inl (qs,d)→(qs=ps∧d=done)∨done.length<d.length:=by
 induction hr with
 |stop _=>intro qs d e;cases e;exact .inl ⟨rfl,rfl⟩
 |goal _ _=>intro qs d e;cases e
 |skip _ _ _ _ _ ih=>exact ih
 |turn _ _ _ _ _ _ _ _ ih=>
  intro qs d e;right;rcases ih qs d e with⟨_,rfl⟩|h
  ·rw[qk];omega
  ·rw[qk]at h;omega
theorem zx6{names req:List js}{p:Nat}(hc:Cx names req p){y0:vl}:∀(u:Nat) {ps:jY} {done:List js},151200-done.length≤u→∀(j:Nat) {k:Nat},(Xx ps+1-(k:Int)).toNat≤j→Inv names req p y0 (k:Int) 0 ps done→∃N r,Ab N ps done k r:=by
 intro u;induction u with
 |zero=>
  intro ps done hu j;induction j with
  |zero=>intro k hj hi;exact⟨0,_,.stop (by omega)⟩
  |succ j ih=>
   intro k hj hi;by_cases jL:(k:Int)≤Xx ps
   ·obtain⟨K,r,wy⟩:=zqf hc _ (ql _) _ (ql _) hi;cases r with
    |inr l=>exact⟨0,_,.goal jL wy⟩
    |inl q=>
     obtain⟨qs,d⟩:=q;have Jy:=(tT hc wy hi).1 _ _ rfl;rw[show(k:Int)+1=((k+1:Nat):Int) by omega]at Jy;rcases IT wy _ _ rfl with⟨rfl,rfl⟩|hlt
     ·obtain⟨N,r,h⟩:=ih (k:=k+1) (by omega) Jy;exact⟨N+1,r,.next jL wy h⟩
     ·have:=Jy.keys hc;omega
   ·exact⟨0,_,.stop (by omega)⟩
 |succ u ihu=>
  intro ps done hu j;induction j with
  |zero=>intro k hj hi;exact⟨0,_,.stop (by omega)⟩
  |succ j ih=>
   intro k hj hi;by_cases jL:(k:Int)≤Xx ps
   ·obtain⟨K,r,wy⟩:=zqf hc _ (ql _) _ (ql _) hi;cases r with
    |inr l=>exact⟨0,_,.goal jL wy⟩
    |inl q=>
     obtain⟨qs,d⟩:=q;have Jy:=(tT hc wy hi).1 _ _ rfl;rw[show(k:Int)+1=((k+1:Nat):Int) by omega]at Jy;rcases IT wy _ _ rfl with⟨rfl,rfl⟩|hlt
     ·obtain⟨N,r,h⟩:=ih (k:=k+1) (by omega) Jy;exact⟨N+1,r,.next jL wy h⟩
     ·have:=Jy.keys hc;obtain⟨N,r,h⟩:=ihu (ps:=qs) (done:=d) (by omega) _ (ql _) Jy;exact⟨N+1,r,.next jL wy h⟩
   ·exact⟨0,_,.stop (by omega)⟩
theorem yex{names req:List js}{p:Nat}(hc:Cx names req p){y0:vl}(H5:Vd names req p (y0,req)):∃r,iB y0 req=some r∧gj req y0 r:=by
 obtain⟨t,t1,t2,t3,t4⟩:=y8r hc (n:=(y0,req,[],0)) (ps:=[]) (w:=0) (y0:=y0) H5 (.nil _) rfl (by simp) (by omega) (by simp);have hi:Inv names req p y0 ((0:Nat):Int) 0 [(t.2.2.2+(hS (wg t):Int),t)] []:=by
  refine⟨fun e he =>?_,xn,fun s hs=>(by cases hs),fun e he hlt =>?_,fun j n hj=>by omega,⟨_,qE.2 rfl,t3,by exact t4⟩,by simp⟩
  ·rw[qE]at he;subst he;exact⟨t2,rfl,by show t.2.2.2≤_;rw[t4];simp⟩
  ·rw[qE]at he;subst he;exfalso;have:t.2.2.2+(hS (wg t):Int)<((0:Nat):Int):=hlt;rw[t4]at this;omega
 have QZ:XW [] (y0,req,[],0)=some [(t.2.2.2+(hS (wg t):Int),t)]:=t1;obtain⟨N,r,Qn⟩:=zx6 hc _ (ql _) _ (ql _) hi;have ON:∃r,sH y0 req r:=⟨r,_,N,QZ,Qn⟩
 refine⟨Classical.choose ON,?_,?_⟩
 ·unfold iB;rw[dif_pos ON]
 ·obtain⟨ps,N',h1,h2⟩:=yu ON;rw[QZ]at h1;cases h1;exact zzc hc H5 h2 hi
end Go.Lift
