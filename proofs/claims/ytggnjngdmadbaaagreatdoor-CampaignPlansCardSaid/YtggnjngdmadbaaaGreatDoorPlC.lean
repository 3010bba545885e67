/-
  That there are plans; how a plan is checked; the law holds of the plain functions.
-/
import Derived.Test.YtggnjngdmadbaaaGreatDoorPlB
set_option linter.all false
namespace Go.Lift
open Go
theorem y8y{y:vl}{a:Nat}(h:a<y.length)(q:List js):(y.set a q).flatten.length+(pl y a).length=y.flatten.length+q.length:=by
 obtain⟨l1,l2,h1,h2,h3⟩:=mM h;rw[h3];rw(occs :=.pos [2]) [h1];simp only[kK,yk,qe];omega
theorem dc{y:vl}{a b:Nat}(ha:a<y.length)(hb:b<y.length)(h:a≠b):(pl y a).length+(pl y b).length≤y.flatten.length:=by
 have h1:=y8y ha [];have h2:=y8y (y:=y.set a []) (a:=b) (by rw[yx];exact hb) [];rw[Sz ha,qT (yL h)]at h2;rw[qR]at h1 h2;omega
theorem yak{names req:List js}{p:Nat}(hc:Cx names req p)(hp:2≤p){left q:List js}{x:js}{a:Nat}:∀(k:Nat) {y:vl} {r:List js},r.length=k→Vd names req p (y,left)→pl y a=q++x::r→∃l y1,Run (y,left) l (y1,left) k∧pl y1 a=q++[x]:=by
 intro k;induction k with
 |zero=>
  intro y r hr hv Wl;rw[zn hr]at Wl;exact⟨[],y,.nil _,Wl⟩
 |succ k ih=>
  intro y r hr hv Wl;obtain⟨r',z,rfl⟩:=bt (l:=r) (by omega);have dY:pl y a=(q++x::r')++[z]:=by rw[Wl];simp
  have ha:=Gz dY;have jH:y.length=p:=hv.len;obtain⟨b,hb,JO⟩:∃b,b<y.length∧a≠b:=by
   by_cases h:a=0
   ·exact⟨1,by omega,by omega⟩
   ·exact⟨0,by omega,h⟩
  have h2:=dc ha hb JO;have h6:y.flatten.length≤6:=ze (yX hv.nd hv.sub) hc.nl;have h3:(pl y b).length<6:=by
   rw[Wl]at h2;simp only[qe,qk]at h2;omega
  have hs:Stp (y,left) ((a:Int),(b:Int)) (Xz (vj y a) b z,left) 1 :=.mv dY hb JO h3;have Q4:=hv.stp hc.rn hs;obtain⟨l,y1,h4,h5⟩:=ih (y:=Xz (vj y a) b z) (r:=r') (by simp only[qe,qj]at hr;omega) Q4 (by
   rw[y8x (by rw[gR];exact hb),qT JO,Sy ha,qH rfl,dY,yJ])
  refine⟨((a:Int),(b:Int))::l,y1,?_,h5⟩;have:=Run.cons hs h4;rwa [Nat.add_comm]at this
theorem y8v{names req:List js}{p:Nat}(hc:Cx names req p)(hp:2≤p):∀(left:List js) {y:vl},Vd names req p (y,left)→∃l s' w,Run (y,left) l s' w∧s'.2=[]∧w≤5*left.length
 |[],y,_=>⟨[],_,0,.nil _,rfl,zz _⟩
 | x::left,y,hv=>by
  have hx:=hv.lsub x (by simp);simp only at hx;rw[xy]at hx;obtain⟨q0,aa,hxq⟩:=hx;obtain⟨a,ha,rfl⟩:=xh.1 aa;have Wl:pl y a=y[a]:=by
   unfold pl;rw[qC,qr ha,qO]
  rw[←Wl]at hxq;obtain⟨q,r,e⟩:=kV hxq;have h6:=hv.small a;simp only at h6;rw[e]at h6;simp only[qe,qk]at h6;obtain⟨l1,y1,h1,h2⟩:=yak hc hp r.length rfl hv e;have Q4:=hv.run hc.rn h1;have hs:Stp (y1,x::left) ((a:Int),-1) (vj y1 a,left) 0 :=.out h2;obtain⟨l2,s',w,h3,h4,h5⟩:=y8v hc hp left (Q4.stp hc.rn hs);refine⟨_,s',_,h1.append (.cons hs h3),h4,?_⟩;rw[qk];omega
theorem y62{names req:List js}{p:Nat}(hc:Cx names req p){y:vl}(hv:Vd names req p (y,req)){l:List (Int×Int)}{s':vr}{w:Nat}(h:Run (y,req) l s' w)(h0:s'.2=[]):∃l' oA w',Run (y,req) l' oA w'∧oA.2=[]∧w'≤30:=by
 have hl:=hc.rl;rcases z7 p 2 with hp|hp
 ·refine⟨l,s',w,h,h0,?_⟩;have key:∀{s s':vr} {l:List (Int×Int)} {w:Nat},Run s l s' w→s.1.length<2→w=0:=by
   intro s s' l w h;induction h with
   |nil s=>intro _;rfl
   |cons hs _ ih=>
    intro hlt;cases hs with
    |out hp=>rw[ih (by simpa [gR]using hlt)]
    |mv hp hb JO _=>
     have:=Gz hp;simp only at hlt;omega
  have:=key h (by have:=hv.len;simp only at this⊢;omega);omega
 ·obtain⟨l',oA,w',h1,h2,h3⟩:=y8v hc hp req hv;exact⟨l',oA,w',h1,h2,by omega⟩
theorem y49{vy:List js}:∀{p:List js} {all:List js},Xy all p = .inl vy→all.Nodup→vy=all++p∧vy.Nodup∧∀x∈p,Yl x=true
 |[],all,h,hn=>by
  have:all=vy:=Sum.inl.inj h;subst this;exact⟨by simp,hn,fun x hx=>by cases hx⟩
 | x :: p,all,h,hn=>by
  rw[mW]at h;cases h1:Yl x with
  |false=>rw[h1]at h;cases h
  |true=>
   cases h2:hasB all x with
   |true=>rw[h1,h2]at h;cases h
   |false=>
    rw[h1,h2]at h;have hx:x∉all:=fun e=>by rw[WZ.2 e]at h2;cases h2
    obtain⟨e1,e2,e3⟩:=y49 (p:=p) (all:=all++[x]) h (by
     rw[yj];refine⟨hn,by simp,fun a ha b hb =>?_⟩;rw[qE]at hb;subst hb;exact fun e=>hx (e▸ha))
    refine⟨by rw[e1];simp,e2,fun z hz =>?_⟩;rcases qF.1 hz with rfl|hz
    ·exact h1
    ·exact e3 z hz
theorem T7{vy:List js}:∀{y:vl} {i:Nat} {all:List js},J1 i all y = .inl vy→all.Nodup→vy=all++y.flatten∧vy.Nodup∧(∀q∈y,q.length≤6)∧∀x∈y.flatten,Yl x=true
 |[],i,all,h,hn=>by
  have:all=vy:=Sum.inl.inj h;subst this;exact⟨by simp,hn,fun q hq=>(by cases hq),fun x hx=>(by cases hx)⟩
 | p :: y,i,all,h,hn=>by
  rw[mX]at h;by_cases hl:((p.length:Int)>6)
  ·rw[jJ hl]at h;cases h
  ·rw[vG hl,qu]at h;cases hp:Xy all p with
   |inr e=>rw[hp]at h;cases h
   |inl all1=>
    rw[hp]at h;obtain⟨e1,e2,e3⟩:=y49 hp hn;obtain⟨f1,f2,f3,f4⟩:=T7 (y:=y) h e2;refine⟨by rw[f1,e1];simp,f2,fun q hq =>?_,fun x hx =>?_⟩
    ·rcases qF.1 hq with rfl|hq
     ·omega
     ·exact f3 q hq
    ·rw[yk]at hx;rcases zB.1 hx with hx|hx
     ·exact e3 x hx
     ·exact f4 x hx
theorem y5l{y:vl}(h:(Ki y).2=0):y.length≤4∧y.flatten.Nodup∧(∀q∈y,q.length≤6)∧∀x∈y.flatten,Yl x=true:=by
 unfold Ki at h;by_cases h0:(y.length:Int)=0
 ·rw[h0]at h;cases h
 ·rw [show ((y.length:Int)==0)=false by rw[qU];exact h0,qu]at h;by_cases h1:(y.length:Int)>4
  ·rw[jJ h1]at h;cases h
  ·rw [vG h1,qu]at h;cases hg:J1 0 [] y with
   |inr e =>
    rw[hg]at h;obtain⟨i,e⟩:=e;exfalso
    have key:∀{y:vl} {j:Nat} {all:List js},J1 j all y = .inr (i,e)→e≠0:=by
     intro y;induction y with
     |nil=>intro j all h;cases h
     |cons p y ih=>
      intro j all h;rw[mX]at h;by_cases hl:((p.length:Int)>6)
      ·rw[jJ hl]at h;cases h;decide
      ·rw [vG hl,qu]at h;cases hp:Xy all p with
       |inl all1=>rw[hp]at h;exact ih h
       |inr e'=>
        rw[hp]at h;have h:=Sum.inr.inj h;simp only[qX]at h;obtain⟨_,rfl⟩:=h;clear hg;have k2:∀{p:List js} {all:List js},Xy all p = .inr e'→e'≠0:=by
         intro p;induction p with
         |nil=>intro all h;cases h
         |cons x p ih=>
          intro all h;rw[mW]at h;cases h1:Yl x with
          |false=>rw[h1]at h;cases h;decide
          |true=>
           cases h2:hasB all x with
           |true=>rw[h1,h2]at h;cases h;decide
           |false=>rw[h1,h2]at h;exact ih h
        exact k2 hp
    exact key hg h
   |inl all=>
    obtain⟨_,e2,e3,e4⟩:=T7 hg xn;have e1:=(T7 hg xn).1;rw[qP]at e1;exact⟨by omega,by rw[←e1];exact e2,e3,e4⟩
theorem P3{y:vl}:∀{r pre:List js},Jj y pre r=0→pre.Nodup→(pre++r).Nodup∧∀x∈r,x∈y.flatten
 |[],pre,_,hn=>⟨by simpa using hn,fun x hx=>by cases hx⟩
 | x :: r,pre,h,hn=>by
  rw[tt]at h;cases h1:y.any fun p=>hasB p x with
  |false=>rw[h1]at h;cases h
  |true=>
   cases h2:hasB pre x with
   |true=>rw[h1,h2]at h;cases h
   |false=>
    rw[h1,h2]at h;have hx:x∉pre:=fun e=>by rw[WZ.2 e]at h2;cases h2
    obtain⟨e1,e2⟩:=P3 (r:=r) (pre:=pre++[x]) h (by
     rw[yj];refine⟨hn,by simp,fun a ha b hb =>?_⟩;rw[qE]at hb;subst hb;exact fun e=>hx (e▸ha))
    refine⟨by simpa using e1,fun z hz =>?_⟩;rcases qF.1 hz with rfl|hz
    ·rw[zI]at h1;obtain⟨q,hq,h1⟩:=h1;exact xy.2 ⟨q,hq,WZ.1 h1⟩
    ·exact e2 z hz
theorem y3q{y:vl}{req:List js}(hy:(Ki y).2=0)(hr:ZB y req=0)(h6:y.flatten.length≤6):Cx y.flatten req y.length∧Vd y.flatten req y.length (y,req):=by
 obtain⟨h1,h2,h3,h4⟩:=y5l hy;obtain⟨e1,e2⟩:=P3 hr xn;refine⟨⟨h6,h4,by simpa using e1,e2,h1⟩,⟨rfl,fun a =>?_,h2,fun x hx=>hx,?_⟩⟩
 ·show(pl y a).length≤6;rcases z7 a y.length with h|h
  ·exact h3 _ (Sx h)
  ·unfold pl;rw[qC,zD h,Option.getD_none];exact zz _
 ·show req=req.filter _;rw[List.filter_eq_self.2];intro x hx;exact WZ.2 (e2 x hx)
theorem tl{y:vl}{a:Nat}(ha:a<y.length):Qb y ((a:Int),-1)=0↔0<(pl y a).length:=by
 have e:Qb y ((a:Int),-1)=(bif !G1 (a:Int) 0 ((y.length:Int)-1)||(!G1 (-1) 0 ((y.length:Int)-1)&&((-1:Int) != -1))then 6 else bif ((pl y a).length:Int)==0 then 11 else bif (a:Int) == -1 then 3 else bif ((-1:Int) != -1)&&decide (((jt [] y (-1)).length:Int)≥6)then 16 else 0):=rfl;rw[e];unfold G1;rw[jJ (show(0:Int)≤(a:Int)∧(a:Int)≤(y.length:Int)-1 by omega),show((-1:Int) != -1)=false from rfl,show((a:Int) == -1)=false by rw[qU];omega];simp only[zi,zS,kg,Bool.or_self,qu];by_cases h:(pl y a).length=0
 ·rw[h];simp
 ·rw[show(((pl y a).length:Int)==0)=false by rw[qU];omega,qu];simp only[true_iff];omega
theorem U1{y:vl}{m:Int×Int}(h:Qb y m=0):∃a:Nat,m.1=(a:Int)∧a<y.length∧(m.2 = -1∨∃b:Nat,m.2=(b:Int)∧b<y.length):=by
 unfold Qb G1 at h;by_cases h1:0≤m.1∧m.1≤(y.length:Int)-1
 ·refine⟨m.1.toNat,by omega,by omega,?_⟩;by_cases h2:0≤m.2∧m.2≤(y.length:Int)-1
  ·exact .inr ⟨m.2.toNat,by omega,by omega⟩
  ·by_cases h3:m.2 = -1
   ·exact .inl h3
   ·rw[vG h2,show(m.2 != -1)=true by rw[zP];exact h3]at h;simp at h
 ·rw[vG h1]at h;simp at h
def FE(y:vl)(a:Int):js:=(jt [] y a).getLastD ByteArray.empty
def Ed(s:vr)(m:Int×Int):Bool:=match s.2 with
 |[]=>true
 |x::_ => !jO (FE s.1 m.1) x
def Vb(s:vr)(m:Int×Int):Int:=if Qb s.1 m=0 then(if m.2 = -1∧Ed s m=true then 24 else 0)else Qb s.1 m
def Xh(s:vr)(m:Int×Int):vr:=if m.2 = -1 then(vj s.1 m.1.toNat,s.2.drop 1)else(Xz (vj s.1 m.1.toNat) m.2.toNat (FE s.1 m.1),s.2)
def ED:Nat→Nat→vr→List (Int×Int)→Int×Int
 |i,w,s,[]=>if s.2=[]then((w:Int),0)else((i:Int),14)
 |i,w,s,m::ms=>if Vb s m=0 then ED (i+1) (if m.2 = -1 then w else w+1) (Xh s m) ms else((i:Int),Vb s m)
theorem mT{y:vl}{a:Nat}{q:List js}{x:js}(h:pl y a=q++[x]):FE y (a:Int)=x:=by
 unfold FE;rw[l6,h,List.getLastD_eq_getLast?,List.getLast?_append];rfl
theorem bj{s:vr}{m:Int×Int}(h:Vb s m=0):Stp s m (Xh s m) (if m.2 = -1 then 0 else 1):=by
 obtain⟨y,left⟩:=s;obtain⟨m1,m2⟩:=m;unfold Vb at h;by_cases h0:Qb y (m1,m2)=0
 ·rw[qH h0]at h;obtain⟨a,e1,ha,hb⟩:=U1 h0;simp only at e1 hb h;subst e1;rcases hb with rfl|⟨b,rfl,hb⟩
  ·rw[tl ha]at h0;obtain⟨q,x,hq⟩:=bt h0;have hr:Ed (y,left) ((a:Int),-1)=false:=by
    cases e:Ed (y,left) ((a:Int),-1)with
    |false=>rfl
    |true=>rw[qH ⟨rfl,e⟩]at h;cases h
   unfold Ed at hr;cases left with
   |nil=>cases hr
   |cons z left=>
    simp only[mT hq]at hr;have:jO x z=true:=by simpa using hr
    obtain rfl:=Ft.1 this;exact .out hq
  ·rw[sZ ha hb]at h0;obtain⟨h3,h4,h5⟩:=h0;obtain⟨q,x,hq⟩:=bt h3;have e:Xh (y,left) ((a:Int),(b:Int))=(Xz (vj y a) b x,left):=by
    unfold Xh;rw[qT (show ¬((b:Int) = -1) by omega)];simp only[mT hq];rfl
   rw[e,qT (show ¬((b:Int) = -1) by omega)];exact .mv hq hb h4 h5
 ·rw[qT h0]at h;exact absurd h h0
theorem P6{s s':vr}{m:Int×Int}{c:Nat}(h:Stp s m s' c):Vb s m=0:=by
 cases h with
 |@out y left q x a hp=>
  unfold Vb;have h0:Qb y ((a:Int),-1)=0:=by
   rw[tl (Gz hp),hp,qe,qj];omega
  have hr:Ed (y,x::left) ((a:Int),-1)=false:=by
   unfold Ed;simp only[mT hp];rw[Ft.2 rfl];rfl
  rw[qH h0,qT (by rw[hr];rintro⟨_,h⟩;cases h)]
 |@mv y left q x a b hp hb JO hl=>
  unfold Vb;have h0:Qb y ((a:Int),(b:Int))=0:=by
   rw[sZ (Gz hp) hb,hp,qe,qj];exact⟨by omega,JO,hl⟩
  rw[qH h0,qT];rintro⟨h,_⟩;have:(b:Int) = -1:=h;omega
theorem yag{s s':vr}{ms:List (Int×Int)}{c:Nat}(h:Run s ms s' c):s'.2=[]→∀i w,ED i w s ms=(((w+c:Nat):Int),0):=by
 induction h with
 |nil s=>
  intro h0 i w;unfold ED;rw[qH h0,yK]
 |@cons s s1 s2 m l c k hs hl ih=>
  intro h0 i w;have h1:=P6 hs;obtain⟨e1,e2⟩:=hs.det (bj h1);unfold ED;rw[qH h1,←e1,ih h0];congr 2
  rw[e2];split<;>omega
theorem cL{y:vl}{a:Nat}(hy:y.length≤1000)(hp:∀q∈y,q.length≤1000)(ha:a<y.length)(h:0<(pl y a).length):iI y (a:Int)=some (FE y (a:Int)):=by
 obtain⟨q,x,hq⟩:=bt h;have hl:=hp _ (Sx ha);unfold iI;rw[Zy (wX (jJ (by omega)) (jJ (by omega))),Zy (wX (jJ (by omega)) (jJ (by omega)))];simp only;rw[hq]at hl;rw[show jt [] y (a:Int)=q++[x] from hq];rw[qe,qj]at hl;rw[qe,qj,Qj (by omega) (by omega),Zy (wX (jJ (by omega)) (jJ (by omega))),mT hq];have e:jt ByteArray.empty (q++[x]) (((q.length+1:Nat):Int)-1)=x:=by
  rw[show((q.length+1:Nat):Int)-1=(q.length:Int) by omega];exact Yx (post:=[])
 rw[e]
theorem yaf{names req:List js}{p:Nat}(hc:Cx names req p){jV:List (Int×Int)}(hm:jV.length≤40){F:Int×EW→Option ((Int×EW)⊕(EW⊕(Int×Int)))}(hF:F=fun s=>
   let vb:Int:=s.1
   let n:EW:=s.2
   bif decide (vb<(jV.length:Int))then
    chk (decide ((0:Int)≤vb)&&decide (vb<(jV.length:Int))) (
     let m:Z0:=jt (0,0) jV vb
     (Bb n.1 m).bind fun(vw:Int)=>
     bif (vw !=0)then
      Option.map Sum.inr (Option.map Sum.inr (
       some (vb,vw)))
     else
      (bif (m.2==(-1))then
       (bif ((List.length n.2.1:Int)==0)then some true else
        (iI n.1 m.1).bind fun(wq:js)=>
        chk (decide ((0:Int)≤0)&&decide (0<(List.length n.2.1:Int))) (
         some (!jO wq (jt ByteArray.empty n.2.1 0)))).bind fun(c:Bool)=>
       some c
      else some false).bind fun(ZV:Bool)=>
      bif ZV then
       Option.map Sum.inr (Option.map Sum.inr (
        some (vb,24)))
      else
       (Ha n m).bind fun(wD:EW)=>
       some (.inl (jv (vb+1),wD)))
   else
    some (.inr (.inl n))):∀(rest:List (Int×Int)) {pre:List (Int×Int)} {n:wC} {w:Nat},jV=pre++rest→Vd names req p (wg n)→n.2.2.2=(w:Int)→n.2.2.1.length=pre.length→w≤pre.length→
  ∃j,vz F ((pre.length:Int),n)=some j∧(match j with
   |.inl n1=>(if n1.2.1=[]then(n1.2.2.2,0)else((jV.length:Int),14))
   |.inr r=>r)=ED pre.length w (wg n) rest
 | [],pre,n,w,vc,hv,hw,hl,hwp=>by
  rw[qL]at vc;subst vc;refine⟨.inl n,Ej ?_,?_⟩
  ·rw[hF];simp only[];rw[vG (show ¬(jV.length:Int)<(jV.length:Int) by omega),qu]
  ·unfold ED;show(if n.2.1=[]then(n.2.2.2,0)else((jV.length:Int),14))=(if n.2.1=[]then((w:Int),0)else((jV.length:Int),14))
   rw[hw]
 | m :: rest,pre,n,w,vc,hv,hw,hl,hwp=>by
  have jH:=congrArg List.length vc;rw[qe,qk]at jH;have hx:jt ((0,0):Int×Int) jV (pre.length:Int)=m:=by rw[vc];exact Yx
  have hy:n.1.length≤1000:=by have:=hv.len;have:=hc.p4;simp only at *;omega
  have hy6:∀q∈n.1,q.length≤1000:=fun q hq=>by have:=hv.piles q hq;omega
  have step:F ((pre.length:Int),n)=if Vb (wg n) m=0 then(Ha n m).bind fun t=>some (.inl (((pre++[m]).length:Int),t))else some (.inr (.inr ((pre.length:Int),Vb (wg n) m))):=by
   rw[hF];simp only[];rw[jJ (show(pre.length:Int)<(jV.length:Int) by omega),qv,Zy (wX (jJ (by omega)) rfl),hx,tO hy,qh];unfold Vb;by_cases h0:Qb n.1 m=0
   ·rw [h0,show((0:Int)!=0)=false from rfl,qu,qH (show(0:Int)=0 from rfl)];obtain⟨m1,m2⟩:=m;obtain⟨a,e1,ha,hb⟩:=U1 h0;simp only at e1 hb;subst e1;have Q9:(Ha n ((a:Int),m2)).bind (fun t=>some (Sum.inl (jv ((pre.length:Int)+1),t)):wC→Option ((Int×wC)⊕(wC⊕(Int×Int))))=(Ha n ((a:Int),m2)).bind fun t=>some (.inl (((pre++[((a:Int),m2)]).length:Int),t)):=by
     rw[Qj (by omega) (by omega),qe,qj];rfl
    by_cases h1:m2 = -1
    ·subst h1;rw[tl ha]at h0;simp only[show((-1:Int) == -1)=true from rfl,qv,kO];unfold Ed;cases Cw:n.2.1 with
     |nil=>
      rw[show(((([]:List js).length:Nat):Int)==0)=true from rfl,qv];simp only[qh,qv,Cw,wg,yp];rfl
     |cons z left=>
      rw[show((((z::left).length:Nat):Int)==0)=false by rw[qU,qk];omega,qu,cL hy hy6 ha h0,qh,Zy (show(decide ((0:Int)≤0)&&decide (0<(((z::left).length:Nat):Int)))=true from wX (jJ (jp 0)) (jJ (by rw[qk];omega)))];have e0:jt ByteArray.empty (z::left) 0=z:=rfl;simp only[qh,e0,wg,Cw];cases hq:jO (FE n.1 (a:Int)) z with
      |true=>
       simp only[zi,qu,qA,zp,yp];exact Q9
      |false=>
       simp only[yn,qv,yp];rfl
    ·simp only[show(m2 == -1)=false by rw[qU];exact h1,qu,qh,h1,false_and,zp,yp];exact Q9
   ·rw[show(Qb n.1 m !=0)=true by rw[zP];exact h0,qv,qT (show ¬Qb (wg n).1 m=0 from h0),qT (show ¬Qb (wg n).1 m=0 from h0)];rfl
  unfold ED;by_cases h0:Vb (wg n) m=0
  ·rw[qH h0]at step⊢;have hs:=bj h0;have Jy:=PW hc hv hs (by omega) (by omega);rw[Jy,qh]at step;obtain⟨j,h1,h2⟩:=yaf hc hm hF rest (pre:=pre++[m]) (n:=((Xh (wg n) m).1,(Xh (wg n) m).2,n.2.2.1++[m],n.2.2.2+((if m.2 = -1 then 0 else 1:Nat):Int))) (w:=if m.2 = -1 then w else w+1) (by rw[vc];simp) (hv.stp hc.rn hs) (by simp only[hw];split<;>omega) (by simp[hl]) (by rw[qe,qj];split<;>omega);refine⟨j,(Az step).trans h1,?_⟩;rw[h2,qe,qj]
  ·rw[qT h0]at step⊢;exact⟨_,Ej step,rfl⟩
theorem I8{names req:List js}{p:Nat}(hc:Cx names req p){y:vl}(hv:Vd names req p (y,req))(hF:WE y req)(hy:(Ki y).2=0)(hr:ZB y req=0)(jV:List (Int×Int)):
  Cm y req jV=some (if jV.length≤40 then ED 0 0 (y,req) jV else(0,8)):=by
 unfold Cm;rw[uo hF,hy,hr,qh];simp only[show((0:Int)!=0)=false from rfl,show((0:Int)==0)=true from rfl,qu,qv];rw[Ja,qh];by_cases hm:jV.length≤40
 ·rw[jJ (show(jV.length:Int)≤40 by omega),qH rfl,CR (by simp),qh,qH hm];simp only[show J3 [0,0]=0 from rfl,show((0:Int)!=0)=false from rfl,qu];obtain⟨j,h1,h2⟩:=yaf hc hm rfl jV (pre:=[]) (n:=(y,req,[],0)) (w:=0) rfl hv rfl rfl (ql _);rw[show(([]:List (Int×Int)).length:Int)=0 from rfl]at h1;rw[h1,qh];rw[qR]at h2;rw[←h2];cases j with
  |inr r=>rfl
  |inl n1=>
   simp only[];by_cases h0:n1.2.1=[]
   ·rw[h0,qH rfl,vG (show ¬((([]:List js).length:Nat):Int)>0 by simp),qu]
   ·rw[qT h0,jJ (show((n1.2.1.length:Nat):Int)>0 by have:=List.length_pos_iff.2 h0;omega),qv]
 ·rw[vG (show ¬(jV.length:Int)≤40 by omega),qT (by simp),CR (by simp),qh,qT hm];rfl
theorem y7i{names req:List js}{p:Nat}(hc:Cx names req p){y:vl}(hv:Vd names req p (y,req))(hF:WE y req)(hy:(Ki y).2=0)(hr:ZB y req=0):
  ∃r:List (Int×Int)×Bool,Ck y req=some (r.1,if r.2 then 0 else 12)∧gj req y r:=by
 obtain⟨r,h1,h2⟩:=yex hc hv;refine⟨r,?_,h2⟩;unfold Ck;rw[uo hF,hy,hr,qh];simp only[show((0:Int)!=0)=false from rfl,show((0:Int)==0)=true from rfl,qu,qv];rw[h1,qh,Ja,qh]
theorem y7g{y:vl}{request:List js}(h:WE y request):ii y=some (Ki y).2:=by
 unfold ii;rw[zue h,qh]
theorem ybf{y:vl}(hy:y.length≤6)(hp:∀q∈y,q.length≤8):mD y=some (y.flatten.length:Int):=by
 have BH:∀z:vl,(∀q∈z,q.length≤8)→z.flatten.length≤8*z.length:=by
  intro z;induction z with
  |nil=>intro _;exact zz _
  |cons q z ih=>
   intro h;have h1:=h q (by simp);have h2:=ih fun r hr=>h r (qo _ hr)
   rw[yk,qe,qk];omega
 unfold mD;rw[qi];refine⟨_,KH (X:=List js) (fun rest s=>∃pre,y=pre++rest∧s=((pre.flatten.length:Int),(pre.length:Int))) ?_ ?_ (l:=y) ⟨[],rfl,rfl⟩,rfl⟩
 ·rintro x rest _ ⟨pre,h1,rfl⟩;have jH:=congrArg List.length h1;rw[qe,qk]at jH;have hx:jt [] y (pre.length:Int)=x:=by rw[h1];exact Yx
  have h8:=hp x (by rw[h1];simp);have hf:=BH pre fun q hq=>hp q (by rw[h1];simp[hq])
  refine Or.inl ⟨(((pre++[x]).flatten.length:Int),((pre++[x]).length:Int)),?_,pre++[x],by rw[h1];simp,rfl⟩;simp only[];rw[jJ (show(pre.length:Int)<(y.length:Int) by omega),qv,Zy (wX (jJ (by omega)) rfl),hx,Qj (by omega) (by omega),Qj (by omega) (by omega),kK,qe,qe,qj];simp
 ·rintro _ ⟨pre,h1,rfl⟩;rw[qL]at h1;subst h1;simp only[];rw[vG (show ¬(y.length:Int)<(y.length:Int) by omega),qu]
theorem y3p{l:List (Int×Int)}(h:l.length≤1000):io l=some l:=by
 unfold io;rw[Eb (by rw[qR];omega),qh,qP]
theorem Uv{y:vl}:∀{r pre:List js},(pre++r).Nodup→(∀x∈r,x∈y.flatten)→Jj y pre r=0
 |[],pre,_,_=>rfl
 | x::r,pre,hn,hs=>by
  rw[tt];have h1:(y.any fun p=>hasB p x)=true:=by
   obtain⟨q,hq,hx⟩:=xy.1 (hs x (by simp));rw[zI];exact⟨q,hq,WZ.2 hx⟩
  have h2:hasB pre x=false:=by
   cases e:hasB pre x with
   |false=>rfl
   |true=>
    rw[yj]at hn;exact absurd rfl (hn.2.2 x (WZ.1 e) x (by simp))
  rw[h1,h2];exact Uv (by simpa using hn) fun z hz=>hs z (qo _ hz)
structure Ready (y:vl) (req:List js):Prop where
 few:WE y req
 ye:(Ki y).2=0
 re:ZB y req=0
 six:y.flatten.length≤6
theorem Ready.cx{y:vl}{req:List js}(h:Ready y req):Cx y.flatten req y.length:=(y3q h.ye h.re h.six).1
theorem Ready.vd{y:vl}{req:List js}(h:Ready y req):Vd y.flatten req y.length (y,req):=(y3q h.ye h.re h.six).2
theorem Ready.cut{y:vl}{req:List js}{x:js}(h:Ready y (req++[x])):Ready y req:=by
 obtain⟨e1,e2⟩:=P3 h.re xn;obtain⟨h1,⟨h2,h3⟩,h4⟩:=h.few;refine⟨⟨h1,⟨by rw[qe]at h2;omega,fun z hz=>h3 z (q8 _ hz)⟩,h4⟩,h.ye,?_,h.six⟩;refine Uv ?_ fun z hz=>e2 z (q8 _ hz)
 rw[qP]at e1⊢;exact(yj.1 e1).1
theorem Ready.best{y:vl}{req:List js}(h:Ready y req):∃r:List (Int×Int)×Bool,Ck y req=some (r.1,if r.2 then 0 else 12)∧
  (r.2=true→∃w:Nat,Cm y req r.1=some ((w:Int),0)∧r.1.length=w+req.length∧r.1.length≤36∧hL req y≤w∧(∃s,Run (y,req) r.1 s w∧s.2=[])∧∀l s c,Run (y,req) l s c→s.2=[]→w≤c)∧
  (r.2=false→r.1=[]∧∀l s c,Run (y,req) l s c→s.2≠[]):=by
 obtain⟨r,h1,h2,h3⟩:=y7i h.cx h.vd h.few h.ye h.re;refine⟨r,h1,fun e =>?_,h3⟩;obtain⟨s,w,g1,g2,g3,g4⟩:=h2 e;obtain⟨l',oA,w',f1,f2,f3⟩:=y62 h.cx h.vd g1 g2;have hw:=g4 _ _ _ f1 f2;have hl:=h.cx.rl;have hh:=Py h.cx.rn h.vd g1;have hz:hS s=0:=by
  show hL s.2 s.1=0;rw[g2];exact Px _
 refine⟨w,?_,g3,by omega,?_,⟨s,g1,g2⟩,g4⟩
 ·rw[I8 h.cx h.vd h.few h.ye h.re,qH (by omega),yag g1 g2,qY]
 ·have:hL req y≤w+hS s:=hh;omega
end Go.Lift
