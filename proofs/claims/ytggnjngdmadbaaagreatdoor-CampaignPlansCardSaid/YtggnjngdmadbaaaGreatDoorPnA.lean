/-
  How the reference checks a plan, and takes what is due.
-/
import Derived.Test.YtggnjngdmadbaaaGreatDoorPlC
import Derived.Test.YtggnjngdmadbaaaGreatDoorPnF
set_option linter.all false
namespace Go.Lift
open Go
theorem U5{s:vr}(hR:WE s.1 s.2)(hy:(Ki s.1).2=0)(m:Int×Int):∃n,WI s.1 m=some (n,Qb s.1 m)∧(∀s' c,Stp s m s' c→n=s'.1):=by
 obtain⟨n,h1,h2,_,_⟩:=y7j hR m hy;refine⟨n,h2,fun s' c hs =>?_⟩;have h0:=P6 hs;have hm:Qb s.1 m=0:=by
  unfold Vb at h0;by_cases e:Qb s.1 m=0
  ·exact e
  ·rw[qT e]at h0;exact absurd h0 e
 have KP:V7 s.1 m=some s'.1:=by
  cases hs with
  |out hp=>exact Lg hp
  |mv hp hb JO hl=>exact y4n hp hb JO (ze (Nat.le_of_lt hl) (by decide))
 have jH:=hR.1;unfold uj at h1;rw[UD hR,qv,Ra hR,qh,hy,show((0:Int)==0)=true from rfl,qv,tO (by omega),qh,hm,show((0:Int)!=0)=false from rfl,qu,KP,qh]at h1;simp only[qb,qX]at h1;exact h1.1.symm
theorem y7p{y:vl}(h0:0<y.length)(h4:y.length≤4)(hn:y.flatten.Nodup)(hl:∀q∈y,q.length≤6)(hp:∀x∈y.flatten,Yl x=true)(h6:y.flatten.length≤6):(Ki y).2=0:=by
 have pile:∀{p all:List js},(all++p).Nodup→(∀x∈p,Yl x=true)→Xy all p = .inl (all++p):=by
  intro p;induction p with
  |nil=>intro all _ _;rw[qL];rfl
  |cons x p ih=>
   intro all hn hp;have h2:hasB all x=false:=by
    cases e:hasB all x with
    |false=>rfl
    |true=>
     rw[yj]at hn;exact absurd rfl (hn.2.2 x (WZ.1 e) x (by simp))
   rw[mW,hp x (by simp),h2];have:=ih (all:=all++[x]) (by simpa using hn) fun z hz=>hp z (qo _ hz)
   simpa using this
 have PE:∀{y:vl} {i:Nat} {all:List js},(all++y.flatten).Nodup→(∀q∈y,q.length≤6)→(∀x∈y.flatten,Yl x=true)→J1 i all y = .inl (all++y.flatten):=by
  intro y;induction y with
  |nil=>intro i all _ _ _;rw[List.flatten_nil,qL];rfl
  |cons p y ih=>
   intro i all hn hl hp;rw[yk]at hn hp⊢;have h6:=hl p (by simp);have e1:Xy all p = .inl (all++p):=pile (by
    rw[←zM]at hn;exact(yj.1 hn).1) fun x hx=>hp x (q8 _ hx)
   rw[mX,vG (show ¬(p.length:Int)>6 by omega),qu,e1];have:=ih (i:=i+1) (all:=all++p) (by simpa using hn) (fun q hq=>hl q (qo _ hq)) fun x hx=>hp x (zx _ hx)
   simpa using this
 unfold Ki;have e:=PE (y:=y) (i:=0) (all:=[]) (by simpa using hn) hl hp;rw[qP]at e;rw[show((y.length:Int)==0)=false by rw[qU];omega,qu,vG (show ¬(y.length:Int)>4 by omega),qu,e];simp only[];rw[vG (show ¬(y.flatten.length:Int)>8 by omega)];rfl
theorem Ur{names req:List js}{p:Nat}(hc:Cx names req p)(h0:0<p){s:vr}(hv:Vd names req p s):Ready s.1 s.2:=by
 have h6:s.1.flatten.length≤6:=ze (yX hv.nd hv.sub) hc.nl;refine⟨hv.few hc,y7p (by rw[hv.len];exact h0) (by rw[hv.len];exact hc.p4) hv.nd hv.piles (fun x hx=>hc.nm x (hv.sub x hx)) h6,?_,h6⟩;exact Uv (by simpa using hv.lnd hc.rn) hv.lsub
theorem y3z{names req:List js}{p:Nat}(hc:Cx names req p)(h0:0<p){y0:vl}{request:List js}(Wi:request=req){vp:List (Int×Int)}(hm:vp.length≤40){F:(List (List js))×Int×Int×Int→Option (((List (List js))×Int×Int×Int)⊕((Int×Int)⊕(Int×Int)))}(hF:F=fun s=>
   let dw:(List (List js)):=s.1
   let Qy:Int:=s.2.1
   let HS:Int:=s.2.2.1
   let i:Int:=s.2.2.2
   bif decide (i<(vp.length:Int))then
    chk (decide ((0:Int)≤i)&&decide (i<(vp.length:Int))) (
     (WI dw (jt (0,0) vp i)).bind fun(r:(List (List js))×Int)=>
     bif (r.2 !=0)then
      Option.map Sum.inr (Option.map Sum.inr (
       some (i,r.2)))
     else
      chk (decide ((0:Int)≤i)&&decide (i<(vp.length:Int))) (
       (bif (((jt (0,0) vp i).2)!=(-1))then
        some (.inl (Qy,jv (HS+1)))
       else
        chk (decide ((0:Int)≤i)&&decide (i<(vp.length:Int))) (
         chk (decide ((0:Int)≤((jt (0,0) vp i).1))&&decide (((jt (0,0) vp i).1)<(dw.length:Int))) (
          let pile:(List js):=jt [] dw ((jt (0,0) vp i).1)
          (bif (Qy==(request.length:Int))then some true else
           chk (decide ((0:Int)≤(jv ((pile.length:Int)-1)))&&decide ((jv ((pile.length:Int)-1))<(pile.length:Int))) (
            chk (decide ((0:Int)≤Qy)&&decide (Qy<(request.length:Int))) (
             some (!jO (jt ByteArray.empty pile (jv ((pile.length:Int)-1))) (jt ByteArray.empty request Qy))))).bind fun(c:Bool)=>
          bif c then
           Option.map Sum.inr (
            Option.map Sum.inr (Option.map Sum.inr (
             some (i,24))))
          else
           some (.inl (jv (Qy+1),HS)))):Option ((Int×Int)⊕(((List (List js))×Int×Int×Int)⊕((Int×Int)⊕(Int×Int))))).bind fun j=>match j with
       |.inl j=>(
        let Wc:Int:=j.1
        let HR:Int:=j.2
        some (.inl (r.1,Wc,HR,jv (i+1))))
       |.inr r=>some r))
   else
    some (.inr (.inl (Qy,HS)))):∀(rest:List (Int×Int)) {pre:List (Int×Int)} {s:vr} {w:Nat},vp=pre++rest→Vd names req p s→s.2.length≤req.length→s.2=req.drop (req.length-s.2.length)→w≤pre.length→
  ∃j,vz F (s.1,((req.length-s.2.length:Nat):Int),(w:Int),(pre.length:Int))=some j∧(match j with
   |.inl b=>(if b.1<(req.length:Int)then((vp.length:Int),14)else(b.2,0))
   |.inr r=>r)=ED pre.length w s rest
 | [],pre,s,w,vc,hv,XE,JD,hwp=>by
  rw[qL]at vc;subst vc;refine⟨.inl (((req.length-s.2.length:Nat):Int),(w:Int)),Ej ?_,?_⟩
  ·rw[hF];simp only[];rw[vG (show ¬(vp.length:Int)<(vp.length:Int) by omega),qu]
  ·unfold ED;simp only;by_cases e:s.2=[]
   ·rw[qH e,qT (by rw[e,qR];omega)]
   ·have:=List.length_pos_iff.2 e;rw[qT e,qH (by omega)]
 | m :: rest,pre,s,w,vc,hv,XE,JD,hwp=>by
  subst Wi;have jH:=congrArg List.length vc;rw[qe,qk]at jH;have hx:jt ((0,0):Int×Int) vp (pre.length:Int)=m:=by rw[vc];exact Yx
  have hR:=Ur hc h0 hv;have hrl:=hc.rl;have wy:(decide ((0:Int)≤(pre.length:Int))&&true)=true:=by rw[jJ (show(0:Int)≤(pre.length:Int) by omega)];rfl
  obtain⟨n,KP,hn⟩:=U5 hR.few hR.ye m
  have step:F (s.1,((request.length-s.2.length:Nat):Int),(w:Int),(pre.length:Int))=if Vb s m=0 then some (.inl ((Xh s m).1,((request.length-(Xh s m).2.length:Nat):Int),(((if m.2 = -1 then w else w+1):Nat):Int),((pre++[m]).length:Int)))else some (.inr (.inr ((pre.length:Int),Vb s m))):=by
   rw[hF];simp only[];rw[jJ (show(pre.length:Int)<(vp.length:Int) by omega),qv,wy,hx];simp only[WU];rw[KP,qh];simp only;by_cases hz:Qb s.1 m=0
   ·have jP:Vb s m=if m.2 = -1∧Ed s m=true then 24 else 0:=by unfold Vb;rw[qH hz]
    rw[hz,show((0:Int)!=0)=false from rfl,qu];obtain⟨a,e1,ha,hb⟩:=U1 hz;obtain⟨m1,m2⟩:=m;simp only at e1 hb;subst e1;rcases hb with rfl|⟨b,rfl,hb⟩
    ·simp only[show((-1:Int) != -1)=false from rfl,qu];rw[tl ha]at hz;obtain⟨q,z,hq⟩:=bt hz;have e2:(decide ((0:Int)≤(a:Int))&&decide ((a:Int)<(List.length s.1:Int)))=true:=wX (jJ (by omega)) (jJ (by omega));have hql:q.length≤5:=by
      have:=hv.small a;rw[hq,qe,qj]at this;omega
     rw[e2];simp only[WU];rw[show jt [] s.1 (a:Int)=q++[z] from hq];have e3:jv ((((q++[z]).length:Nat):Int)-1)=(q.length:Int):=by
      rw[qe,qj,Qj (by omega) (by omega)];omega
     rw[e3];have e4:(decide ((0:Int)≤(q.length:Int))&&decide ((q.length:Int)<(((q++[z]).length:Nat):Int)))=true:=wX (jJ (by omega)) (jJ (by rw[qe,qj];omega));have e5:jt ByteArray.empty (q++[z]) (q.length:Int)=z:=Yx (post:=[]);rw[e4,e5];simp only[WU];cases hl:s.2 with
     |nil=>
      have NV:Ed s ((a:Int),-1)=true:=by unfold Ed;rw[hl]
      rw[NV]at jP;simp only[kO,yp]at jP;rw[qT (by rw[jP];decide),jP,qR,yO,beq_self_eq_true,qv,qh];rfl
     |cons x left=>
      have hlx:(x::left).length≤request.length:=by rw[←hl];exact XE
      simp only[qk]at hlx;have e6:jt ByteArray.empty request ((request.length-(x::left).length:Nat):Int)=x:=by
       unfold jt;rw[yP,qC];have h2:=JD;rw[hl]at h2;have h3:(request.drop (request.length-(x::left).length))[0]?=some x:=by rw[←h2];rfl
       rw[zd,yK]at h3;rw[h3];rfl
      have e7:(decide ((0:Int)≤((request.length-(x::left).length:Nat):Int))&&decide (((request.length-(x::left).length:Nat):Int)<(request.length:Int)))=true:=wX (jJ (by omega)) (jJ (by rw[qk];omega));rw[show(((request.length-(x::left).length:Nat):Int)==(request.length:Int))=false by rw[qU,qk];omega,qu,e7,e6];simp only[WU,qh];have NV:Ed s ((a:Int),-1)=!jO z x:=by
       unfold Ed;rw[hl];simp only[mT hq]
      rw[NV]at jP;cases hsq:jO z x with
      |true=>
       rw[hsq]at jP;simp only[zi,qA,and_false,zp]at jP;rw[qH jP];have VP:=hn _ _ (bj jP);simp only[zi,qu,qh];have e8:Xh s ((a:Int),-1)=(vj s.1 a,left):=by
        unfold Xh;rw[qH rfl,hl];rfl
       rw[VP,e8,Qj (by omega) (by omega),Qj (by omega) (by omega),qH trivial,qe,qj,qk];have e9:((request.length-(left.length+1):Nat):Int)+1=((request.length-left.length:Nat):Int):=by omega
       rw[e9];rfl
      |false=>
       rw[hsq]at jP;simp only[yn,and_self,yp]at jP;rw[qT (by rw[jP];decide),jP];rfl
    ·have Qu:((b:Int) != -1)=true:=by rw[zP];omega
     have QU:¬((b:Int) = -1):=by omega
     simp only[QU,false_and,zp]at jP;simp only[Qu,qv,qh];rw[qH jP];have VP:=hn _ _ (bj jP);have e8:(Xh s ((a:Int),(b:Int))).2=s.2:=by
      unfold Xh;rw[qT QU]
     rw[VP,e8,Qj (by omega) (by omega),Qj (by omega) (by omega),qe,qj];simp only[QU,zp];rfl
   ·have jP:Vb s m=Qb s.1 m:=by unfold Vb;rw[qT hz]
    rw[jP,qT hz,show(Qb s.1 m !=0)=true by rw[zP];exact hz,qv];rfl
  unfold ED;by_cases hz:Vb s m=0
  ·rw[qH hz]at step⊢;have hs:=bj hz;have Q4:=hv.stp hc.rn hs;have pE:(Xh s m).2.length≤request.length∧(Xh s m).2=request.drop (request.length-(Xh s m).2.length):=by
    generalize Zd:Xh s m=t at hs;cases hs with
    |@out yy left q x a hp=>
     simp only[qk]at XE JD⊢;refine⟨by omega,?_⟩;have:left=(request.drop (request.length-(left.length+1))).drop 1:=by rw[←JD];rfl
     rw(occs :=.pos [1]) [this];rw[xk];congr 1
     omega
    |mv _ _ _ _=>exact⟨XE,JD⟩
   obtain⟨j,h1,h2⟩:=y3z hc h0 (y0:=y0) rfl hm hF rest (pre:=pre++[m]) (s:=Xh s m) (w:=if m.2 = -1 then w else w+1) (by rw[vc];simp) Q4 pE.1 pE.2 (by rw[qe,qj];split<;>omega);refine⟨j,(Az step).trans h1,?_⟩;rw[h2,qe,qj]
  ·rw[qT hz]at step⊢;exact⟨_,Ej step,rfl⟩
theorem zkf{y:vl}{req:List js}(hR:Ready y req)(h0:0<y.length)(vp:List (Int×Int)):iz y req vp=some (if vp.length≤40 then ED 0 0 (y,req) vp else(0,8)):=by
 have hc:=hR.cx;have hv:=hR.vd;unfold iz;by_cases hm:vp.length≤40
 ·rw[vG (show ¬(vp.length:Int)>40 by omega),qu,qH hm];obtain⟨j,h1,h2⟩:=y3z hc h0 (y0:=y) rfl hm rfl vp (pre:=[]) (s:=(y,req)) (w:=0) rfl hv (ql _) (by simp) (ql _);rw[show((req.length-(y,req).2.length:Nat):Int)=0 by simp]at h1;have h3:∀(o:Option ((Int×Int)⊕(Int×Int))) (f:(Int×Int)⊕(Int×Int)→Option (Int×Int)),o=some j→o.bind f=f j:=fun o f e=>by rw[e];rfl
  refine(h3 _ _ h1).trans ?_;rw[qR]at h2;rw[←h2];cases j with
  |inr r=>rfl
  |inl b=>
   simp only[];by_cases e:b.1<(req.length:Int)
   ·rw[jJ e,qv,qH e]
   ·rw[vG e,qu,qT e]
 ·rw[jJ (show(vp.length:Int)>40 by omega),qv,qT hm]
def QF(n:Nat)(s:vr):vE:=(s.1,((n-s.2.length:Nat):Int))
structure On (names req:List js) (p:Nat) (s:vr):Prop where
 vd:Vd names req p s
 le:s.2.length≤req.length
 dr:s.2=req.drop (req.length-s.2.length)
theorem On.stp{names req:List js}{p:Nat}(hr:req.Nodup){s t:vr}{m:Int×Int}{c:Nat}(h:On names req p s)(hs:Stp s m t c):On names req p t:=by
 refine⟨h.vd.stp hr hs,?_,?_⟩
 ·have:=h.le;cases hs with
  |out _=>simp only[qk]at this⊢;omega
  |mv _ _ _ _=>exact this
 ·have hl:=h.le;have hd:=h.dr;cases hs with
  |@out yy left q x a hp=>
   simp only[qk]at hl hd⊢;have:left=(req.drop (req.length-(left.length+1))).drop 1:=by rw[←hd];rfl
   rw(occs :=.pos [1]) [this];rw[xk];congr 1
   omega
  |mv _ _ _ _=>exact hd
theorem On.run{names req:List js}{p:Nat}(hr:req.Nodup){s t:vr}{l:List (Int×Int)}{k:Nat}(h:On names req p s)(hs:Run s l t k):On names req p t:=by
 induction hs with
 |nil _=>exact h
 |cons hs _ ih=>exact ih (h.stp hr hs)
theorem On.head{names req:List js}{p:Nat}{y:vl}{x:js}{l:List js}(h:On names req p (y,x::l)):jt ByteArray.empty req ((req.length-(x::l).length:Nat):Int)=x:=by
 have h2:=h.dr;simp only at h2;have h3:(req.drop (req.length-(x::l).length))[0]?=some x:=by rw[←h2];rfl
 rw[zd,yK]at h3;unfold jt;rw[yP,qC,h3];rfl
def tq(x:js)(p:List js):Bool:=bif decide (0<p.length)then jO (p.getD (p.length-1) ByteArray.empty) x else false
theorem y3t(y:vl)(x:js):KD y x=y.findIdx? (tq x):=rfl
theorem de{y:vl}{i:Nat}(h:i<y.length):pl y i=y[i]:=by
 unfold pl;rw[qC,qr h,qO]
theorem y93{names req:List js}{p:Nat}(hc:Cx names req p)(h0:0<p){request:List js}(Wi:request=req){s:vr}(h:On names req p s){F:Bool×Int×vE→Option ((Bool×Int×vE)⊕(Bool×vE))}(hF:F=fun Kc=>
    let Zn:Bool:=Kc.1
    let i:Int:=Kc.2.1
    let Y1:vE:=Kc.2.2
    bif (((decide (i<(List.length Y1.1:Int)))&&(!Zn))&&(decide (Y1.2<(request.length:Int))))then
     chk (decide ((0:Int)≤i)&&decide (i<(List.length Y1.1:Int))) (
      let top:Int:=jv ((List.length (jt [] Y1.1 i):Int)-1)
      (bif decide (top≥0)then
       chk (decide ((0:Int)≤i)&&decide (i<(List.length Y1.1:Int))) (
        chk (decide ((0:Int)≤top)&&decide (top<(List.length (jt [] Y1.1 i):Int))) (
         chk (decide ((0:Int)≤Y1.2)&&decide (Y1.2<(request.length:Int))) (
          some (jO (jt ByteArray.empty (jt [] Y1.1 i) top) (jt ByteArray.empty request Y1.2)))))
      else some false).bind fun(c:Bool)=>
      (bif c then
       (WI Y1.1 (i,(-1))).bind fun(r:(List (List js))×Int)=>
       some (true,(r.1,jv (Y1.2+1)))
      else
       some (Zn,Y1)).bind fun(j:Bool×vE)=>
      let Wb:Bool:=j.1
      let Nn:vE:=j.2
      some (.inl (Wb,jv (i+1),Nn)))
    else
     some (.inr (Zn,Y1))):
  vz F (false,0,QF req.length s)=some (match s.2 with
   |[]=>(false,QF req.length s)
   |x::l=>match KD s.1 x with
    |none=>(false,QF req.length s)
    |some i=>(true,QF req.length (vj s.1 i,l))):=by
 subst Wi;obtain⟨y,left⟩:=s;have hR:=Ur hc h0 h.vd;have hrl:=hc.rl;have A2:y.length≤4:=by have:=h.vd.len;have:=hc.p4;simp only at *;omega
 cases left with
 |nil=>
  simp only;refine Ej ?_;rw[hF];unfold QF;simp only[];rw[vG (show ¬((request.length-([]:List js).length:Nat):Int)<(request.length:Int) by rw[qR];omega),kg,qu]
 |cons x l=>
  have jL:=h.le;simp only[qk]at jL;have hhd:=h.head;have hlt:decide (((request.length-(x::l).length:Nat):Int)<(request.length:Int))=true:=jJ (by rw[qk];omega);have step:∀k,k<y.length→F (false,(k:Int),QF request.length (y,x::l))=bif tq x (pl y k)then some (.inl (true,((k+1:Nat):Int),QF request.length (vj y k,l)))else some (.inl (false,((k+1:Nat):Int),QF request.length (y,x::l))):=by
   intro k hk;have dX:=h.vd.small k;simp only at dX;rw[hF];unfold QF;simp only[];rw[jJ (show(k:Int)<(y.length:Int) by omega),hlt];simp only[yn,kP,qv];rw[Zy (show(decide ((0:Int)≤(k:Int))&&true)=true by rw[jJ (show(0:Int)≤(k:Int) by omega)];rfl)];rw[show jt [] y (k:Int)=pl y k from rfl];rw[Qj (show -9223372036854775808≤(((pl y k).length:Nat):Int)-1 by omega) (by omega),Qj (show -9223372036854775808≤(k:Int)+1 by omega) (by omega)];unfold tq;by_cases hp:0<(pl y k).length
   ·obtain⟨q,z,hq⟩:=bt hp;rw[jJ hp,qv,jJ (show(((pl y k).length:Nat):Int)-1≥0 by omega),qv];rw[hq]at dX⊢;rw[qe,qj]at dX;have e3:((((q++[z]).length:Nat):Int)-1)=(q.length:Int):=by rw[qe,qj];omega
    have e5:jt ByteArray.empty (q++[z]) (q.length:Int)=z:=Yx (post:=[]);have e6:(q++[z]).getD ((q++[z]).length-1) ByteArray.empty=z:=by
     rw[qe,qj,kW,qC,zm (ql _),yV];rfl
    rw[e3,e5,e6,hhd,Qj (by omega) (by omega)];have hk0:decide ((0:Int)≤(k:Int))=true:=jJ (by omega);have Kd:decide ((q.length:Int)<(((q++[z]).length:Nat):Int))=true:=jJ (by rw[qe,qj];omega);have hL0:decide ((0:Int)≤((request.length-(x::l).length:Nat):Int))=true:=jJ (by omega);simp only[hk0,Kd,hL0,kP,WU,qh];cases hz:jO z x with
    |false=>
     simp only[qu,qh];rfl
    |true=>
     obtain rfl:=Ft.1 hz;obtain⟨n,KP,hn⟩:=U5 hR.few hR.ye ((k:Int),-1);have G8:=hn _ _ (Stp.out hq);simp only at KP G8;rw[KP];simp only[qv,qh];rw[G8];have e9:((request.length-(z::l).length:Nat):Int)+1=((request.length-l.length:Nat):Int):=by rw[qk];omega
     rw[e9];rfl
   ·rw[vG hp,qu,vG (show ¬(((pl y k).length:Nat):Int)-1≥0 by omega),qu];simp only[qh,qu];rfl
  have MB:∀(i:Int) (t:vE),F (true,i,t)=some (.inr (true,t)):=fun i t=>by
   rw[hF];simp only[zi,kg,zS,qu]
  have MA:F (false,(y.length:Int),QF request.length (y,x::l))=some (.inr (false,QF request.length (y,x::l))):=by
   rw[hF];unfold QF;simp only[];rw[vG (show ¬(y.length:Int)<(y.length:Int) by omega),zS,zS,qu]
  simp only;cases ht:KD y x with
  |none=>
   rw[y3t,xS]at ht;refine tN (fun k=>(false,(k:Int),QF request.length (y,x::l))) y.length rfl (fun k hk =>?_) MA;rw[step k hk,ht _ (Sx hk),qu]
  |some i=>
   rw[y3t,yM]at ht;obtain⟨hi,h1,h2⟩:=ht;refine tN (fun k=>if k≤i then(false,(k:Int),QF request.length (y,x::l))else(true,(k:Int),QF request.length (vj y i,l))) (i+1) (by rw[qH (zz _)];rfl) (fun k hk =>?_) ?_
   ·rw[qH (show k≤i by omega),step k (by omega),de (by omega)];by_cases e:k=i
    ·subst e;rw[h1,qv,qT (by omega)]
    ·rw[qH (show k+1≤i by omega)];have:=h2 k (by omega);have:tq x y[k]=false:=by simpa using this
     rw[this,qu]
   ·rw[qT (by omega)];exact MB _ _
theorem ydw{names req:List js}{p:Nat}(hc:Cx names req p)(h0:0<p){s:vr}(h:On names req p s):CH (QF req.length s) req=some (QF req.length (tS s)):=by
 unfold CH;have key:∀(G:Bool×vE→Option ((Bool×vE)⊕vE)),(∀s,On names req p s→G (true,QF req.length s)=some (.inl (match s.2 with
   |[]=>(false,QF req.length s)
   |x::l=>match KD s.1 x with
    |none=>(false,QF req.length s)
    |some i=>(true,QF req.length (vj s.1 i,l)))))→(∀t,G (false,t)=some (.inr t))→∀(k:Nat) (s:vr),s.2.length=k→On names req p s→vz G (true,QF req.length s)=some (QF req.length (XI k s)):=by
  intro G g1 g2 k;induction k with
  |zero=>
   intro s hk h;have e:s.2=[]:=zn hk;have h1:=g1 s h;rw[e]at h1;rw[Az h1];exact Ej (g2 _)
  |succ k ih=>
   intro s hk h;obtain⟨y,left⟩:=s;cases left with
   |nil=>cases hk
   |cons x l=>
    have h1:=g1 _ h;unfold XI;simp only at h1⊢;cases ht:KD y x with
    |none=>
     rw[ht]at h1;rw[Az h1];exact Ej (g2 _)
    |some i=>
     rw[ht]at h1;obtain⟨q,hq⟩:=tc ht;rw[Az h1];exact ih (vj y i,l) (by simpa using hk) (h.stp hc.rn (Stp.out hq))
 have h3:∀(o:Option vE) (f:vE→Option vE) (j:vE),o=some j→o.bind f=f j:=fun o f j e=>by rw[e];rfl
 refine(h3 _ _ _ (key _ (fun s h =>?_) (fun t=>rfl) s.2.length s rfl h)).trans rfl;have h4:∀(o:Option (Bool×vE)) (f:Bool×vE→Option ((Bool×vE)⊕vE)) (j:Bool×vE),o=some j→o.bind f=f j:=fun o f j e=>by rw[e];rfl
 exact h4 _ _ _ (y93 hc h0 rfl h rfl)
theorem ydg{a b:List js}(ha:a.length≤60000):∃v,CP a b=some v∧(v=true↔a=b):=by
 unfold CP;by_cases hl:a.length=b.length
 ·rw [show((a.length:Int)!=(b.length:Int))=false by rw[hl];simp,qu];obtain⟨r,h1,h2⟩:∃r:Unit⊕Bool,vz (S:=Int) (R:=(Unit)⊕(Bool)) (fun i=>
   bif decide (i<(a.length:Int))then
    chk (decide ((0:Int)≤i)&&decide (i<(a.length:Int))) (
     chk (decide ((0:Int)≤i)&&decide (i<(b.length:Int))) (
      bif !jO (jt ByteArray.empty a i) (jt ByteArray.empty b i)then
       Option.map Sum.inr (Option.map Sum.inr (
        some false))
      else
       some (.inl (jv (i+1)))))
   else
    some (.inr (.inl ()))) 0=some r∧((r = .inl ()∧a=b)∨(r = .inr false∧a≠b)):=by
   refine tM (X:=js) (fun rest s=>∃pre rb,a=pre++rest∧b=pre++rb∧s=(pre.length:Int)) _ ?_ ?_ (l:=a) ⟨[],b,rfl,rfl,rfl⟩
   ·rintro x rest _ ⟨pre,rb,h1,h2,rfl⟩;have e1:=congrArg List.length h1;have e2:=congrArg List.length h2;rw[qe,qk]at e1;rw[qe]at e2;cases rb with
    |nil=>rw[qR]at e2;omega
    |cons z rb=>
     have g1:jt ByteArray.empty a (pre.length:Int)=x:=by rw[h1];exact Yx
     have g2:jt ByteArray.empty b (pre.length:Int)=z:=by rw[h2];exact Yx
     rw[jJ (show(pre.length:Int)<(a.length:Int) by omega),qv,Zy (wX (jJ (by omega)) rfl),Zy (wX (jJ (by omega)) (jJ (by rw[qk]at e2;omega))),g1,g2];cases hs:jO x z with
     |true=>
      obtain rfl:=Ft.1 hs;rw[zi,qu];exact .inl ⟨_,rfl,pre++[x],rb,by rw[h1];simp,by rw[h2];simp,by rw[Qj (by omega) (by omega),qe,qj];rfl⟩
     |false=>
      refine .inr ⟨_,rfl,.inr ⟨rfl,fun e =>?_⟩⟩;rw[h1,h2,List.append_cancel_left_eq]at e;simp only[qM]at e;rw[e.1,Ft.2 rfl]at hs;cases hs
   ·rintro _ ⟨pre,rb,h1,h2,rfl⟩;rw[qL]at h1;subst h1;rw[vG (show ¬(a.length:Int)<(a.length:Int) by omega),qu];refine⟨_,rfl,.inl ⟨rfl,?_⟩⟩;rw[h2,qe]at hl;rw[h2,zn (show rb.length=0 by omega),qL]
  rw[h1,qh];rcases h2 with⟨rfl,e⟩|⟨rfl,e⟩
  ·exact⟨true,rfl,fun _=>e,fun _=>rfl⟩
  ·exact⟨false,rfl,fun h=>(by cases h),fun h=>absurd h e⟩
 ·rw[show((a.length:Int)!=(b.length:Int))=true by rw[zP];omega,qv];exact⟨false,rfl,fun h=>(by cases h),fun h=>absurd (congrArg List.length h) hl⟩
theorem y3k{a b:vl}(ha:a.length≤60000)(hp:∀q∈a,q.length≤60000):∃v,Ch a b=some v∧(v=true↔a=b):=by
 unfold Ch;by_cases hl:a.length=b.length
 ·rw [show((a.length:Int)!=(b.length:Int))=false by rw[hl];simp,qu];obtain⟨r,h1,h2⟩:∃r:Unit⊕Bool,vz (S:=Int) (R:=(Unit)⊕(Bool)) (fun i=>
   bif decide (i<(a.length:Int))then
    chk (decide ((0:Int)≤i)&&decide (i<(a.length:Int))) (
     chk (decide ((0:Int)≤i)&&decide (i<(b.length:Int))) (
      (CP (jt [] a i) (jt [] b i)).bind fun(t:Bool)=>
      bif !t then
       Option.map Sum.inr (Option.map Sum.inr (
        some false))
      else
       some (.inl (jv (i+1)))))
   else
    some (.inr (.inl ()))) 0=some r∧((r = .inl ()∧a=b)∨(r = .inr false∧a≠b)):=by
   refine tM (X:=List js) (fun rest s=>∃pre rb,a=pre++rest∧b=pre++rb∧s=(pre.length:Int)) _ ?_ ?_ (l:=a) ⟨[],b,rfl,rfl,rfl⟩
   ·rintro x rest _ ⟨pre,rb,h1,h2,rfl⟩;have e1:=congrArg List.length h1;have e2:=congrArg List.length h2;rw[qe,qk]at e1;rw[qe]at e2;cases rb with
    |nil=>rw[qR]at e2;omega
    |cons z rb=>
     have g1:jt [] a (pre.length:Int)=x:=by rw[h1];exact Yx
     have g2:jt [] b (pre.length:Int)=z:=by rw[h2];exact Yx
     obtain⟨v,t1,t2⟩:=ydg (a:=x) (b:=z) (hp x (by rw[h1];simp));rw[jJ (show(pre.length:Int)<(a.length:Int) by omega),qv,Zy (wX (jJ (by omega)) rfl),Zy (wX (jJ (by omega)) (jJ (by rw[qk]at e2;omega))),g1,g2,t1,qh];cases v with
     |true=>
      obtain rfl:=t2.1 rfl;rw[zi,qu];exact .inl ⟨_,rfl,pre++[x],rb,by rw[h1];simp,by rw[h2];simp,by rw[Qj (by omega) (by omega),qe,qj];rfl⟩
     |false=>
      refine .inr ⟨_,rfl,.inr ⟨rfl,fun e =>?_⟩⟩;rw[h1,h2,List.append_cancel_left_eq]at e;simp only[qM]at e;exact Bool.noConfusion (t2.2 e.1)
   ·rintro _ ⟨pre,rb,h1,h2,rfl⟩;rw[qL]at h1;subst h1;rw[vG (show ¬(a.length:Int)<(a.length:Int) by omega),qu];refine⟨_,rfl,.inl ⟨rfl,?_⟩⟩;rw[h2,qe]at hl;rw[h2,zn (show rb.length=0 by omega),qL]
  rw[h1,qh];rcases h2 with⟨rfl,e⟩|⟨rfl,e⟩
  ·exact⟨true,rfl,fun _=>e,fun _=>rfl⟩
  ·exact⟨false,rfl,fun h=>(by cases h),fun h=>absurd h e⟩
 ·rw[show((a.length:Int)!=(b.length:Int))=true by rw[zP];omega,qv];exact⟨false,rfl,fun h=>(by cases h),fun h=>absurd (congrArg List.length h) hl⟩
end Go.Lift
