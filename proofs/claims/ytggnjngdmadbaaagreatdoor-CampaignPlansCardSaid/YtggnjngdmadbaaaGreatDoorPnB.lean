/-
  The reference's search finds the least work; the law holds of the plain functions.
-/
import Derived.Test.YtggnjngdmadbaaaGreatDoorPnA
set_option linter.all false
namespace Go.Lift
open Go
abbrev KW:=List (vr×Nat)
def X0(kw:KW)(s:vr):Bool:=kw.any fun e=>hasB2 e.1 s
where hasB2 (a b:vr):Bool:=decide (a=b)
theorem TE{kw:KW}{s:vr}:X0 kw s=true↔∃e∈kw,e.1=s:=by
 unfold X0 X0.hasB2;rw[zI];simp
def fV(kw:KW)(s:vr)(w:Nat):KW:=bif X0 kw s then kw else kw++[(s,w)]
def cD(t:vr)(w:Nat)(kw:KW)(m:Int×Int):KW:=if Qb t.1 m=0 then fV kw (tS (Xh t m)) (w+1)else kw
def Y2(p:Nat)(t:vr)(w a n:Nat)(kw:KW):KW:=(List.range n).foldl (fun kw (b:Nat)=>cD t w kw ((a:Int),(b:Int))) kw
def Xe(p:Nat)(t:vr)(w n:Nat)(kw:KW):KW:=(List.range n).foldl (fun kw (a:Nat)=>Y2 p t w a p kw) kw
theorem Lt{p:Nat}{t:vr}{w a n:Nat}{kw:KW}:Y2 p t w a (n+1) kw=cD t w (Y2 p t w a n kw) ((a:Int),(n:Int)):=by
 unfold Y2;rw[List.range_succ,List.foldl_append];rfl
theorem y15{p:Nat}{t:vr}{w n:Nat}{kw:KW}:Xe p t w (n+1) kw=Y2 p t w n p (Xe p t w n kw):=by
 unfold Xe;rw[List.range_succ,List.foldl_append];rfl
structure ydi (names req:List js) (p:Nat) (t0:vr) (kw:KW):Prop where
 on:∀e∈kw,On names req p e.1
 nd:(kw.map (·.1)).Nodup
 run:∀e∈kw,TRun t0 e.1 e.2
 srt:∀(i j:Nat) (a b:vr×Nat),i≤j→kw[i]?=some a→kw[j]?=some b→a.2≤b.2
 ix:∀(i:Nat) (a:vr×Nat),kw[i]?=some a→a.2≤i
structure WC (names req:List js) (p:Nat) (t0:vr) (kw0:KW) (w:Nat) (kw:KW):Prop where
 good:ydi names req p t0 kw
 pre:kw0 <+: kw
 top:∀e∈kw,e.2≤w+1
theorem ydi.len{names req:List js}{p:Nat}(hc:Cx names req p){t0:vr}{kw:KW}(h:ydi names req p t0 kw):kw.length≤151200:=by
 have h1:(kw.map fun e=>ZQ e.1.1).length≤151200:=by
  refine y9q hc ?_ fun s hs =>?_
  ·have:∀{l:KW},(∀e∈l,On names req p e.1)→(l.map (·.1)).Nodup→(l.map fun e=>ZQ e.1.1).Nodup:=by
    intro l;induction l with
    |nil=>intro _ _;exact xn
    |cons e l ih=>
     intro ho hn;rw[zl,z6]at hn⊢;refine⟨fun hm =>?_,ih (fun e he=>ho e (qo _ he)) hn.2⟩;obtain⟨e',FU,h2⟩:=zG.1 hm;have v1:=(ho e (by simp)).vd;have v2:=(ho e' (qo _ FU)).vd;have:wg (e'.1.1,e'.1.2,[],0)=wg (e.1.1,e.1.2,[],0):=y06 hc v2 v1 h2;exact hn.1 (zG.2 ⟨e',FU,this⟩)
   exact this h.on h.nd
  ·obtain⟨e,he,rfl⟩:=zG.1 hs;have hv:=(h.on e he).vd;exact⟨e.1.1,hv.len,hv.nd,hv.sub,rfl⟩
 rwa [zg]at h1
theorem y9n{names req:List js}{p:Nat}(hc:Cx names req p){t0 t:vr}{kw0 kw:KW}{w i:Nat}(h:WC names req p t0 kw0 w kw)(hi:kw0[i]?=some (t,w)){a b:Nat}(ha:a<t.1.length)(hb:b<t.1.length):
  WC names req p t0 kw0 w (cD t w kw ((a:Int),(b:Int)))∧(∀e∈kw,e∈cD t w kw ((a:Int),(b:Int)))∧∀s1,Stp t ((a:Int),(b:Int)) s1 1→∃e∈cD t w kw ((a:Int),(b:Int)),e.1=tS s1∧e.2≤w+1:=by
 have Qa:kw[i]?=some (t,w):=by
  obtain⟨r,rfl⟩:=h.pre;rw[zf (qp.1 hi).1];exact hi
 have hmt:=qK Qa;have Wp:=(qp.1 Qa).1;unfold cD;by_cases hm:Qb t.1 ((a:Int),(b:Int))=0
 ·rw [qH hm];have jP:Vb t ((a:Int),(b:Int))=0:=by
   unfold Vb;rw[qH hm,qT];rintro⟨e,_⟩;have:(b:Int) = -1:=e;omega
  have hs:=bj jP;rw[qT (show ¬((b:Int) = -1) by omega)]at hs;obtain⟨l,hr,_⟩:=bg (Xh t ((a:Int),(b:Int)));have Et:On names req p (tS (Xh t ((a:Int),(b:Int)))):=((h.good.on _ hmt).stp hc.rn hs).run hc.rn hr;unfold fV;cases wy:X0 kw (tS (Xh t ((a:Int),(b:Int))))with
  |true=>
   rw[qv];refine⟨h,fun e he=>he,fun s1 h1 =>?_⟩;obtain⟨e,he,h2⟩:=TE.1 wy;rw[(h1.det hs).1];exact⟨e,he,h2,h.top e he⟩
  |false=>
   rw[qu];have Ob:∀e∈kw,e.1≠tS (Xh t ((a:Int),(b:Int))):=fun e he e2=>by
    rw[TE.2 ⟨e,he,e2⟩]at wy;cases wy
   refine⟨⟨⟨fun e he =>?_,?_,fun e he =>?_,fun j k x z HB hx hz =>?_,fun j x hx =>?_⟩,?_,fun e he =>?_⟩,fun e he=>q8 _ he,fun s1 h1 =>?_⟩
   ·rcases zB.1 he with he|he
    ·exact h.good.on e he
    ·rw[qE.1 he];exact Et
   ·rw[zv,zl,xC,yj];refine⟨h.good.nd,by simp,fun x hx z hz =>?_⟩;rw[qE]at hz;subst hz;obtain⟨e,he,rfl⟩:=zG.1 hx;exact Ob e he
   ·rcases zB.1 he with he|he
    ·exact h.good.run e he
    ·rw[qE.1 he];exact .snoc (h.good.run _ hmt) ⟨_,_,hs,rfl⟩
   ·by_cases hk:k<kw.length
    ·rw[zf hk]at hz;rw[zf (by omega)]at hx;exact h.good.srt j k x z HB hx hz
    ·rw[zm (by omega)]at hz;have Bw:z=(tS (Xh t ((a:Int),(b:Int))),w+1):=by
      cases Gd:k-kw.length with
      |zero=>rw[Gd]at hz;exact(zQ hz).symm
      |succ n=>rw[Gd]at hz;cases hz
     rw[Bw];by_cases hj:j<kw.length
     ·rw[zf hj]at hx;exact h.top x (qK hx)
     ·rw[zm (by omega)]at hx;cases Gd:j-kw.length with
      |zero=>rw[Gd]at hx;rw[←zQ hx];exact ql _
      |succ n=>rw[Gd]at hx;cases hx
   ·by_cases hj:j<kw.length
    ·rw[zf hj]at hx;exact h.good.ix j x hx
    ·rw[zm (by omega)]at hx;have:=h.good.ix i _ Qa;simp only at this;cases Gd:j-kw.length with
     |zero=>rw[Gd]at hx;rw[←zQ hx];show w+1≤j;omega
     |succ n=>rw[Gd]at hx;cases hx
   ·exact h.pre.trans (List.prefix_append _ _)
   ·rcases zB.1 he with he|he
    ·exact h.top e he
    ·rw[qE.1 he];exact ql _
   ·rw[(h1.det hs).1];exact⟨_,zx _ (qE.2 rfl),rfl,ql _⟩
 ·rw[qT hm];refine⟨h,fun e he=>he,fun s1 h1 =>?_⟩;exfalso;have h0:=P6 h1;unfold Vb at h0;rw[qT hm]at h0;exact hm h0
theorem TM{names req:List js}{p:Nat}(hc:Cx names req p){t0 t:vr}{kw0:KW}{w i:Nat}(hi:kw0[i]?=some (t,w)){a:Nat}(ha:a<t.1.length):∀(n:Nat) {kw:KW},n≤t.1.length→WC names req p t0 kw0 w kw→
  WC names req p t0 kw0 w (Y2 p t w a n kw)∧(∀e∈kw,e∈Y2 p t w a n kw)∧∀b s1,b<n→Stp t ((a:Int),(b:Int)) s1 1→∃e∈Y2 p t w a n kw,e.1=tS s1∧e.2≤w+1
 |0,kw,_,h=>⟨h,fun e he=>he,fun b s1 hb=>by omega⟩
 | n+1,kw,hn,h=>by
  obtain⟨h1,h2,h3⟩:=TM hc hi ha n (by omega) h;obtain⟨g1,g2,g3⟩:=y9n hc h1 hi ha (b:=n) (by omega);rw[Lt];refine⟨g1,fun e he=>g2 e (h2 e he),fun b s1 hb hs =>?_⟩;by_cases e:b=n
  ·subst e;exact g3 s1 hs
  ·obtain⟨e,he,a1,a2⟩:=h3 b s1 (by omega) hs;exact⟨e,g2 e he,a1,a2⟩
theorem TL{names req:List js}{p:Nat}(hc:Cx names req p){t0 t:vr}{kw0:KW}{w i:Nat}(hi:kw0[i]?=some (t,w))(hp:p=t.1.length):∀(n:Nat) {kw:KW},n≤t.1.length→WC names req p t0 kw0 w kw→
  WC names req p t0 kw0 w (Xe p t w n kw)∧(∀e∈kw,e∈Xe p t w n kw)∧∀a b s1,a<n→b<t.1.length→Stp t ((a:Int),(b:Int)) s1 1→∃e∈Xe p t w n kw,e.1=tS s1∧e.2≤w+1
 |0,kw,_,h=>⟨h,fun e he=>he,fun a b s1 ha=>by omega⟩
 | n+1,kw,hn,h=>by
  obtain⟨h1,h2,h3⟩:=TL hc hi hp n (by omega) h;obtain⟨g1,g2,g3⟩:=TM hc hi (a:=n) (by omega) p (by omega) h1;rw[y15];refine⟨g1,fun e he=>g2 e (h2 e he),fun a b s1 ha hb hs =>?_⟩;by_cases e:a=n
  ·subst e;exact g3 b s1 (by omega) hs
  ·obtain⟨e,he,a1,a2⟩:=h3 a b s1 (by omega) hb hs;exact⟨e,g2 e he,a1,a2⟩
structure JY (names req:List js) (p:Nat) (t0:vr) (i:Nat) (kw:KW):Prop where
 good:ydi names req p t0 kw
 zero:kw[0]?=some (t0,0)
 le:i≤kw.length
 near:∀(a b:vr×Nat),kw[i]?=some a→b∈kw→b.2≤a.2+1
 cl:∀(j:Nat) (a:vr×Nat),j<i→kw[j]?=some a→a.1.2≠[]∧∀t',fY a.1 t'→∃e∈kw,e.1=t'∧e.2≤a.2+1
theorem y9o{names req:List js}{p:Nat}(hc:Cx names req p){t0 t:vr}{kw:KW}{w i:Nat}(h:JY names req p t0 i kw)(hi:kw[i]?=some (t,w))(h0:t.2≠[]):JY names req p t0 (i+1) (Xe p t w p kw):=by
 have hv:=(h.good.on _ (qK hi)).vd;have X2:=(qp.1 hi).1;obtain⟨g1,g2,g3⟩:=TL hc hi hv.len.symm p (by rw[hv.len];exact ql _) ⟨h.good,List.prefix_refl _,fun e he=>h.near _ e hi he⟩;obtain⟨r,hr⟩:=g1.pre;have Xa:∀j,j<kw.length→(Xe p t w p kw)[j]?=kw[j]?:=fun j hj=>by rw[←hr,zf hj]
 refine⟨g1.good,?_,by rw[←hr,qe];omega,fun a b ha hb =>?_,fun j a hj ha =>?_⟩
 ·rw[Xa 0 (by omega)];exact h.zero
 ·have h1:=g1.good.srt i (i+1) (t,w) a (by omega) (by rw[Xa i X2];exact hi) ha;have h2:=g1.top b hb;simp only at h1;omega
 ·by_cases e:j=i
  ·subst e;rw[Xa j X2,hi]at ha;cases ha;refine⟨h0,fun t' ht =>?_⟩;obtain⟨m,s1,hs,rfl⟩:=ht;have hs':=hs;cases hs with
   |@mv y left q x a b hp hb JO hl=>
    exact g3 a b _ (by rw[←hv.len];exact Gz hp) hb hs'
  ·have Y9:j<kw.length:=by omega
   rw[Xa j Y9]at ha;obtain⟨a1,a2⟩:=h.cl j a (by omega) ha;refine⟨a1,fun t' ht =>?_⟩;obtain⟨e,he,b1,b2⟩:=a2 t' ht;exact⟨e,g2 e he,b1,b2⟩
theorem y9p{names req:List js}{p:Nat}{t0:vr}{kw:KW}{i:Nat}(h:JY names req p t0 i kw){t:vr}{k:Nat}(hr:TRun t0 t k):(∀a:vr×Nat,kw[i]?=some a→k≤a.2)→∃(j:Nat) (a:vr×Nat),kw[j]?=some a∧a.1=t∧a.2≤k:=by
 induction hr with
 |nil=>intro _;exact⟨0,_,h.zero,rfl,ql _⟩
 |@snoc t t' k hr hs ih=>
  intro hk;obtain⟨j,a,h1,h2,h3⟩:=ih fun a ha=>by have:=hk a ha;omega
  have DA:j<i:=by
   rcases z7 j i with hlt|hge
   ·exact hlt
   ·exfalso;have hjl:=(qp.1 h1).1;have hi:=qr (l:=kw) (i:=i) (by omega);have e1:=hk _ hi;have e2:=h.good.srt i j _ a hge hi h1;omega
  obtain⟨_,h4⟩:=h.cl j a DA h1;rw[←h2]at hs;obtain⟨e,he,h5,h6⟩:=h4 t' hs;obtain⟨j',Y9⟩:=xc.1 he;exact⟨j',e,Y9,h5,by omega⟩
theorem TRun.run{t0 t:vr}{k:Nat}(h:TRun t0 t k):∃l,Run t0 l t k:=by
 induction h with
 |nil=>exact⟨[],.nil _⟩
 |@snoc t t' k _ hs ih=>
  obtain⟨l,hl⟩:=ih;obtain⟨m,s1,h1,rfl⟩:=hs;obtain⟨l2,h2,_⟩:=bg s1;exact⟨_,by have:=hl.append (Run.cons h1 h2);rwa [yK]at this⟩
def Vp(n:Nat)(kw:KW):List vE:=kw.map fun e=>QF n e.1
def J5(kw:KW):List Int:=kw.map fun e=>(e.2:Int)
theorem lV{A B:Type}(o:Option A)(f:A→Option B)(j:A)(e:o=some j):o.bind f=f j:=by rw[e];rfl
theorem oG{names req:List js}{p:Nat}{s t:vr}(hs:On names req p s)(ht:On names req p t)(hl:s.2.length=t.2.length)(hy:s.1=t.1):s=t:=by
 have e:s.2=t.2:=by rw[hs.dr,ht.dr,hl]
 exact Prod.ext hy e
theorem yfd{names req:List js}{p:Nat}(hc:Cx names req p){kw:KW}(hk:∀e∈kw,On names req p e.1)(jH:kw.length≤151200){s:vr}(hs:On names req p s){jC:List vE}(e1:jC=Vp req.length kw){vb:vE}(e2:vb=QF req.length s):
  vz (S := Bool×Int) (R:=Bool) (fun Kc=>
        let is:Bool:=Kc.1
        let k:Int:=Kc.2
        bif ((decide (k<(jC.length:Int)))&&(!is))then
         chk (decide ((0:Int)≤k)&&decide (k<(jC.length:Int))) (
          (bif (((jt ([],0) jC k).2)==vb.2)then
           chk (decide ((0:Int)≤k)&&decide (k<(jC.length:Int))) (
            (Ch ((jt ([],0) jC k).1) vb.1).bind fun(vw:Bool)=>
            some vw)
          else some false).bind fun(c:Bool)=>
          some (.inl (c,jv (k+1))))
        else
         some (.inr is)) (false,0)=some (X0 kw s):=by
 subst e1 e2;have Eu:(Vp req.length kw).length=kw.length:=by unfold Vp;rw[zg]
 refine KH (X:=vr×Nat) (fun rest st=>(∃pre,kw=pre++rest∧st=(false,(pre.length:Int))∧X0 kw s=X0 rest s)∨(st.1=true∧X0 kw s=true)) ?_ ?_ (l:=kw) (s:=(false,(0:Int))) (.inl ⟨[],rfl,rfl,rfl⟩)
 ·rintro x rest st (⟨pre,h1,rfl,h2⟩|⟨h1,h2⟩)
  ·have pF:=congrArg List.length h1;rw[qe,qk]at pF;have hx:jt (([],0):vE) (Vp req.length kw) (pre.length:Int)=QF req.length x.1:=by
    rw[h1];unfold Vp;exact ycg
   have SN:=hk x (by rw[h1];simp);refine .inl ⟨(decide (x.1=s),((pre.length+1:Nat):Int)),?_,?_⟩
   ·simp only[];rw[Eu,jJ (show(pre.length:Int)<(kw.length:Int) by omega)];simp only[yn,kP,qv];rw[Zy (show(decide ((0:Int)≤(pre.length:Int))&&true)=true by rw[jJ (show(0:Int)≤(pre.length:Int) by omega)];rfl),hx];have Oo:=SN.le;have YI:=hs.le;by_cases hl:x.1.2.length=s.2.length
    ·rw[show((QF req.length x.1).2==(QF req.length s).2)=true by unfold QF;simp only;rw[hl];simp,qv];rw[Zy (show(decide ((0:Int)≤(pre.length:Int))&&true)=true by rw[jJ (show(0:Int)≤(pre.length:Int) by omega)];rfl)];obtain⟨v,g1,g2⟩:=y3k (a:=x.1.1) (b:=s.1) (by have:=SN.vd.len;have:=hc.p4;omega) fun q hq=>by have:=SN.vd.piles q hq;omega
     rw[show Ch (QF req.length x.1).1 (QF req.length s).1=some v from g1];simp only[qh];have hv:v=decide (x.1=s):=by
      by_cases e:x.1=s
      ·rw[jJ e];exact g2.2 (by rw[e])
      ·rw[vG e];cases Di:v with
       |false=>rfl
       |true=>exact absurd (oG SN hs hl (g2.1 Di)) e
     rw[hv,Qj (by omega) (by omega)];rfl
    ·rw[show((QF req.length x.1).2==(QF req.length s).2)=false by unfold QF;simp only;rw[qU];omega,qu];simp only[qh];rw[vG (show ¬x.1=s from fun e=>hl (by rw[e])),Qj (by omega) (by omega)];rfl
   ·by_cases e:x.1=s
    ·refine .inr ⟨jJ e,?_⟩;rw[h2];exact TE.2 ⟨x,by simp,e⟩
    ·refine .inl ⟨pre++[x],by rw[h1];simp,by rw[vG e,qe,qj],?_⟩;rw[h2];unfold X0 X0.hasB2;rw[yH,vG e,yF]
  ·refine .inr ?_;simp only[];rw[h1,zi,kg,qu,h2]
 ·rintro st (⟨pre,h1,rfl,h2⟩|⟨h1,h2⟩)
  ·rw[qL]at h1;subst h1;simp only[];rw[Eu,vG (show ¬(kw.length:Int)<(kw.length:Int) by omega),zS,qu,h2];rfl
  ·simp only[];rw[h1,zi,kg,qu,h2]
theorem y05{n:Nat}{kw:KW}{i:Nat}{t:vr}{w:Nat}(h:kw[i]?=some (t,w)):jt (([],0):vE) (Vp n kw) (i:Int)=QF n t∧jt 0 (J5 kw) (i:Int)=(w:Int)∧(i:Int)<((Vp n kw).length:Int)∧(i:Int)<((J5 kw).length:Int):=by
 have hi:=(qp.1 h).1;unfold jt Vp J5;rw[yP,qC,qC,yG,yG,h,zg,zg];exact⟨rfl,rfl,by omega,by omega⟩
theorem ybl{names req:List js}{p:Nat}(hc:Cx names req p)(h0:0<p){t0 t:vr}{kw0 kw:KW}{w j:Nat}(hj:kw0[j]?=some (t,w))(hm:WC names req p t0 kw0 w kw){a:Nat}(ha:a<t.1.length){y:vl}(hy:y.length=p){request:List js}(Wi:request=req){i:Int}(hi:i=(j:Int)){QV:Int}(hf:QV=(a:Int)):
  vz (S := (List vE)×(List Int)×Int) (R:=(List vE)×(List Int)) (fun Xg=>
     let jC:(List vE):=Xg.1
     let j5:(List Int):=Xg.2.1
     let to:Int:=Xg.2.2
     bif decide (to<(y.length:Int))then
      chk (decide ((0:Int)≤i)&&decide (i<(jC.length:Int))) (
       (WI ((jt ([],0) jC i).1) (QV,to)).bind fun(r:(List (List js))×Int)=>
       bif (r.2 !=0)then
        some (.inl (jC,j5,jv (to+1)))
       else
        chk (decide ((0:Int)≤i)&&decide (i<(jC.length:Int))) (
         (CH (r.1,(jt ([],0) jC i).2) request).bind fun(vb:vE)=>
         (vz (S:=Bool×Int) (R:=Bool) (fun Kc=>
          let is:Bool:=Kc.1
          let k:Int:=Kc.2
          bif ((decide (k<(jC.length:Int)))&&(!is))then
           chk (decide ((0:Int)≤k)&&decide (k<(jC.length:Int))) (
            (bif (((jt ([],0) jC k).2)==vb.2)then
             chk (decide ((0:Int)≤k)&&decide (k<(jC.length:Int))) (
              (Ch ((jt ([],0) jC k).1) vb.1).bind fun(vw:Bool)=>
              some vw)
            else some false).bind fun(c:Bool)=>
            some (.inl (c,jv (k+1))))
          else
           some (.inr is)) (false,0)).bind fun(H3:Bool)=>
         (bif !H3 then
          (app jC [vb]).bind fun(wq:List vE)=>
          chk (decide ((0:Int)≤i)&&decide (i<(j5.length:Int))) (
           (app j5 [jv ((jt 0 j5 i)+1)]).bind fun(wD:List Int)=>
           some (wq,wD))
         else
          some (jC,j5)).bind fun(j:(List vE)×(List Int))=>
         let Zp:(List vE):=j.1
         let Zl:(List Int):=j.2
         some (.inl (Zp,Zl,jv (to+1)))))
     else
      some (.inr (jC,j5))) (Vp req.length kw,J5 kw,0)=some (Vp req.length (Y2 p t w a p kw),J5 (Y2 p t w a p kw)):=by
 subst Wi hi hf;have SX:∀k,k≤p→WC names request p t0 kw0 w (Y2 p t w a k kw):=fun k hk=>by
  have hv:=(hm.good.on _ (qK (show kw[j]?=some (t,w) by
   obtain⟨r,rfl⟩:=hm.pre;rw[zf (qp.1 hj).1];exact hj))).vd
  exact(TM hc hj ha k (by rw[hv.len];exact hk) hm).1
 refine tN (fun k=>(Vp request.length (Y2 p t w a k kw),J5 (Y2 p t w a k kw),(k:Int))) p rfl (fun k hk =>?_) ?_
 ·have Ye:=SX k (by omega);rw[Lt];generalize Y2 p t w a k kw=kk at Ye;have HB:kk[j]?=some (t,w):=by
   obtain⟨r,rfl⟩:=Ye.pre;rw[zf (qp.1 hj).1];exact hj
  obtain⟨g1,g2,g3,g4⟩:=y05 (n:=request.length) HB;have ho:=Ye.good.on _ (qK HB);have hR:=Ur hc h0 ho.vd;have am:=Ye.good.len hc;have hjl:=(qp.1 HB).1;have hwj:=Ye.good.ix j _ HB;simp only at hwj;have pb:=hc.p4;have NI:=ho.vd.len;simp only at NI;simp only[];rw[jJ (show(k:Int)<(y.length:Int) by omega),qv,Zy (wX (jJ (by omega)) (jJ g3)),g1];obtain⟨n',KP,hn⟩:=U5 hR.few hR.ye ((a:Int),(k:Int));rw[show WI (QF request.length t).1 ((a:Int),(k:Int))=some (n',Qb t.1 ((a:Int),(k:Int))) from KP];simp only[qh];unfold cD;by_cases hz:Qb t.1 ((a:Int),(k:Int))=0
  ·rw[hz,show((0:Int)!=0)=false from rfl,qu,qH rfl,Zy (wX (jJ (by omega)) (jJ g3))];have jP:Vb t ((a:Int),(k:Int))=0:=by
    unfold Vb;rw[qH hz,qT];rintro⟨e,_⟩;have:(k:Int) = -1:=e;omega
   have hs:=bj jP;have G9:=hn _ _ hs;have VP:(Xh t ((a:Int),(k:Int))).2=t.2:=by
    unfold Xh;rw[qT (show ¬((k:Int) = -1) by omega)]
   have Et:=ho.stp hc.rn hs;have Qn:=ydw hc h0 Et;have Zd:((n',(QF request.length t).2):vE)=QF request.length (Xh t ((a:Int),(k:Int))):=by
    unfold QF;rw[G9,VP]
   rw[Zd,Qn];simp only[qh];obtain⟨l,hr,_⟩:=bg (Xh t ((a:Int),(k:Int)));have N3:=Et.run hc.rn hr;refine(lV _ _ _ (yfd hc Ye.good.on am N3 rfl rfl)).trans ?_;unfold fV;cases wy:X0 kk (tS (Xh t ((a:Int),(k:Int))))with
   |true=>
    simp only[zi,qu,qv,qh];rw[Qj (by omega) (by omega)];rfl
   |false=>
    have XE:(Vp request.length kk).length=kk.length:=by unfold Vp;rw[zg]
    have JD:(J5 kk).length=kk.length:=by unfold J5;rw[zg]
    simp only[yn,qu,qv];rw[Eb (by rw[XE,qj];omega)];simp only[qh];rw[Zy (wX (jJ (by omega)) (jJ g4)),g2,Eb (by rw[JD,qj];omega)];simp only[qh];rw[Qj (show -9223372036854775808≤(w:Int)+1 by omega) (by omega),Qj (by omega) (by omega)];unfold Vp J5;rw[zv,zv];rfl
  ·rw[show(Qb t.1 ((a:Int),(k:Int))!=0)=true by rw[zP];exact hz,qv,qT hz,Qj (by omega) (by omega)];rfl
 ·simp only[];rw[vG (show ¬(p:Int)<(y.length:Int) by omega),qu]
theorem ydf{names req:List js}{p:Nat}(hc:Cx names req p)(h0:0<p){t0 t:vr}{kw0 kw:KW}{w j:Nat}(hj:kw0[j]?=some (t,w))(hm:WC names req p t0 kw0 w kw){y:vl}(hy:y.length=p){request:List js}(Wi:request=req){i:Int}(hi:i=(j:Int)):
  vz (S := (List vE)×(List Int)×Int) (R:=(List vE)×(List Int)) (fun Qq=>
    let QQ:(List vE):=Qq.1
    let QP:(List Int):=Qq.2.1
    let QV:Int:=Qq.2.2
    bif decide (QV<(y.length:Int))then
     (vz (S := (List vE)×(List Int)×Int) (R:=(List vE)×(List Int)) (fun Xg=>
      let jC:(List vE):=Xg.1
      let j5:(List Int):=Xg.2.1
      let to:Int:=Xg.2.2
      bif decide (to<(y.length:Int))then
       chk (decide ((0:Int)≤i)&&decide (i<(jC.length:Int))) (
        (WI ((jt ([],0) jC i).1) (QV,to)).bind fun(r:(List (List js))×Int)=>
        bif (r.2 !=0)then
         some (.inl (jC,j5,jv (to+1)))
        else
         chk (decide ((0:Int)≤i)&&decide (i<(jC.length:Int))) (
          (CH (r.1,(jt ([],0) jC i).2) request).bind fun(vb:vE)=>
          (vz (S:=Bool×Int) (R:=Bool) (fun Kc=>
           let is:Bool:=Kc.1
           let k:Int:=Kc.2
           bif ((decide (k<(jC.length:Int)))&&(!is))then
            chk (decide ((0:Int)≤k)&&decide (k<(jC.length:Int))) (
             (bif (((jt ([],0) jC k).2)==vb.2)then
              chk (decide ((0:Int)≤k)&&decide (k<(jC.length:Int))) (
               (Ch ((jt ([],0) jC k).1) vb.1).bind fun(vw:Bool)=>
               some vw)
             else some false).bind fun(c:Bool)=>
             some (.inl (c,jv (k+1))))
           else
            some (.inr is)) (false,0)).bind fun(H3:Bool)=>
          (bif !H3 then
           (app jC [vb]).bind fun(wq:List vE)=>
           chk (decide ((0:Int)≤i)&&decide (i<(j5.length:Int))) (
            (app j5 [jv ((jt 0 j5 i)+1)]).bind fun(wD:List Int)=>
            some (wq,wD))
          else
           some (jC,j5)).bind fun(j:(List vE)×(List Int))=>
          let Zp:(List vE):=j.1
          let Zl:(List Int):=j.2
          some (.inl (Zp,Zl,jv (to+1)))))
      else
       some (.inr (jC,j5))) (QQ,QP,0)).bind fun(b:(List vE)×(List Int))=>
     let Y6:(List vE):=b.1
     let YY:(List Int):=b.2
     some (.inl (Y6,YY,jv (QV+1)))
    else
     some (.inr (QQ,QP))) (Vp req.length kw,J5 kw,0)=some (Vp req.length (Xe p t w p kw),J5 (Xe p t w p kw)):=by
 have hv:=(hm.good.on _ (qK (show kw[j]?=some (t,w) by
   obtain⟨r,rfl⟩:=hm.pre;rw[zf (qp.1 hj).1];exact hj))).vd
 have pb:=hc.p4;refine tN (fun k=>(Vp req.length (Xe p t w k kw),J5 (Xe p t w k kw),(k:Int))) p rfl (fun k hk =>?_) ?_
 ·have Ye:=(TL hc hj hv.len.symm k (by rw[hv.len];omega) hm).1;rw[y15];simp only[];rw[jJ (show(k:Int)<(y.length:Int) by omega),qv];refine(lV _ _ _ (ybl hc h0 hj Ye (a:=k) (by rw[hv.len];exact hk) hy Wi hi rfl)).trans ?_;simp only[];rw[Qj (by omega) (by omega)];rfl
 ·simp only[];rw[vG (show ¬(p:Int)<(y.length:Int) by omega),qu]
theorem y7q{names req:List js}{p:Nat}(hc:Cx names req p)(h0:0<p){t0:vr}{y:vl}(hy:y.length=p){request:List js}(Wi:request=req){F:(List vE)×(List Int)×Int→Option (((List vE)×(List Int)×Int)⊕(Unit⊕(Int×Bool)))}(hF:F=fun s=>
  let Y7:(List vE):=s.1
  let Vw:(List Int):=s.2.1
  let i:Int:=s.2.2
  bif decide (i < (Y7.length:Int))then
   chk (decide ((0:Int)≤i)&&decide (i<(Y7.length:Int))) (
    bif (((jt ([],0) Y7 i).2)==(request.length:Int))then
     chk (decide ((0:Int)≤i)&&decide (i<(Vw.length:Int))) (
      Option.map Sum.inr (Option.map Sum.inr (
       some (jt 0 Vw i,true))))
    else
     (vz (S := (List vE)×(List Int)×Int) (R:=(List vE)×(List Int)) (fun Qq=>
      let QQ:(List vE):=Qq.1
      let QP:(List Int):=Qq.2.1
      let QV:Int:=Qq.2.2
      bif decide (QV<(y.length:Int))then
       (vz (S := (List vE)×(List Int)×Int) (R:=(List vE)×(List Int)) (fun Xg=>
        let jC:(List vE):=Xg.1
        let j5:(List Int):=Xg.2.1
        let to:Int:=Xg.2.2
        bif decide (to<(y.length:Int))then
         chk (decide ((0:Int)≤i)&&decide (i<(jC.length:Int))) (
          (WI ((jt ([],0) jC i).1) (QV,to)).bind fun(r:(List (List js))×Int)=>
          bif (r.2 !=0)then
           some (.inl (jC,j5,jv (to+1)))
          else
           chk (decide ((0:Int)≤i)&&decide (i<(jC.length:Int))) (
            (CH (r.1,(jt ([],0) jC i).2) request).bind fun(vb:vE)=>
            (vz (S:=Bool×Int) (R:=Bool) (fun Kc=>
             let is:Bool:=Kc.1
             let k:Int:=Kc.2
             bif ((decide (k<(jC.length:Int)))&&(!is))then
              chk (decide ((0:Int)≤k)&&decide (k<(jC.length:Int))) (
               (bif (((jt ([],0) jC k).2)==vb.2)then
                chk (decide ((0:Int)≤k)&&decide (k<(jC.length:Int))) (
                 (Ch ((jt ([],0) jC k).1) vb.1).bind fun(vw:Bool)=>
                 some vw)
               else some false).bind fun(c:Bool)=>
               some (.inl (c,jv (k+1))))
             else
              some (.inr is)) (false,0)).bind fun(H3:Bool)=>
            (bif !H3 then
             (app jC [vb]).bind fun(wq:List vE)=>
             chk (decide ((0:Int)≤i)&&decide (i<(j5.length:Int))) (
              (app j5 [jv ((jt 0 j5 i)+1)]).bind fun(wD:List Int)=>
              some (wq,wD))
            else
             some (jC,j5)).bind fun(j:(List vE)×(List Int))=>
            let Zp:(List vE):=j.1
            let Zl:(List Int):=j.2
            some (.inl (Zp,Zl,jv (to+1)))))
        else
         some (.inr (jC,j5))) (QQ,QP,0)).bind fun(b:(List vE)×(List Int))=>
       let Y6:(List vE):=b.1
       let YY:(List Int):=b.2
       some (.inl (Y6,YY,jv (QV+1)))
      else
       some (.inr (QQ,QP))) (Y7,Vw,0)).bind fun(DZ:(List vE)×(List Int))=>
     let Wg:(List vE):=DZ.1
     let K3:(List Int):=DZ.2
     some (.inl (Wg,K3,jv (i+1))))
  else
   some (.inr (.inl ()))):∀(u i:Nat) (kw:KW),151201-i≤u→JY names req p t0 i kw→
  (∃dF i' t w,JY names req p t0 i' dF∧dF[i']?=some (t,w)∧t.2=[]∧vz F (Vp req.length kw,J5 kw,(i:Int))=some (.inr ((w:Int),true)))∨(∃dF,JY names req p t0 dF.length dF∧vz F (Vp req.length kw,J5 kw,(i:Int))=some (.inl ())):=by
 subst Wi;intro u;induction u with
 |zero=>
  intro i kw hu h;have:=h.good.len hc;have:=h.le;omega
 |succ u ih=>
  intro i kw hu h;have am:=h.good.len hc;have jL:=h.le;have XE:(Vp request.length kw).length=kw.length:=by unfold Vp;rw[zg]
  by_cases hi:i<kw.length
  ·obtain⟨⟨t,w⟩,lm⟩:∃a,kw[i]?=some a:=⟨_,qr hi⟩
   obtain⟨g1,g2,g3,g4⟩:=y05 (n:=request.length) lm;have ho:=h.good.on _ (qK lm);have N6:=ho.le;simp only at N6;by_cases ht:t.2=[]
   ·left;refine⟨kw,i,t,w,h,lm,ht,Ej ?_⟩;rw[hF];simp only[];rw[jJ g3,qv,Zy (wX (jJ (by omega)) rfl),g1];rw[show((QF request.length t).2==(request.length:Int))=true by unfold QF;simp only;rw[ht];simp,qv,Zy (wX (jJ (by omega)) (jJ g4)),g2];rfl
   ·have step:F (Vp request.length kw,J5 kw,(i:Int))=some (.inl (Vp request.length (Xe p t w p kw),J5 (Xe p t w p kw),((i+1:Nat):Int))):=by
     rw[hF];simp only[];have Qm:=List.length_pos_iff.2 ht;rw[jJ g3,qv,Zy (wX (jJ (by omega)) rfl),g1];rw[show((QF request.length t).2==(request.length:Int))=false by unfold QF;simp only;rw[qU];omega,qu];refine(lV _ _ _ (ydf hc h0 lm ⟨h.good,List.prefix_refl _,fun e he=>h.near _ e lm he⟩ hy rfl rfl)).trans ?_;simp only[];rw[Qj (by omega) (by omega)];rfl
    rw[Az step];exact ih (i+1) _ (by omega) (y9o hc h lm ht)
  ·right;have e:i=kw.length:=by omega
   subst e;refine⟨kw,h,Ej ?_⟩;rw[hF];simp only[];rw[XE,vG (show ¬(kw.length:Int)<(kw.length:Int) by omega),qu]
theorem yg8{y:vl}{req:List js}(hR:Ready y req)(h0:0<y.length):∃r:Int×Bool,mi y req=some r∧
  (r.2=true→∃w:Nat,r.1=(w:Int)∧(∃l s,Run (y,req) l s w∧s.2=[])∧∀l s c,Run (y,req) l s c→s.2=[]→w≤c)∧(r.2=false→∀l s c,Run (y,req) l s c→s.2≠[]):=by
 have hc:=hR.cx;have hv:=hR.vd;have Et:On y.flatten req y.length (y,req):=⟨hv,ql _,by simp⟩
 obtain⟨l0,hr0,_⟩:=bg (y,req);have N2:=Et.run hc.rn hr0;have hi:JY y.flatten req y.length (tS (y,req)) 0 [(tS (y,req),0)]:=by
  refine⟨⟨fun e he =>?_,by simp,fun e he =>?_,fun i j a b X3 ha hb =>?_,fun i a ha =>?_⟩,rfl,zz _,fun a b ha hb =>?_,fun j a hj=>by omega⟩
  ·rw[qE.1 he];exact N2
  ·rw[qE.1 he];exact .nil
  ·have h1:=qE.1 (qK ha);rw[h1];exact zz _
  ·rw[qE.1 (qK ha)];exact zz _
  ·rw[qE.1 hb];exact zz _
 have QR:∀{kw:KW} {i:Nat},JY y.flatten req y.length (tS (y,req)) i kw→∀l s c,Run (y,req) l s c→s.2=[]→∀w:Nat,(∀a:vr×Nat,kw[i]?=some a→a.2=w)→c<w∨i=kw.length→False:=by
  intro kw i hk l s c hl hs w hw Ey;obtain⟨t',j',h1,h2,h3⟩:=cR hc.rn hl hv hs;obtain⟨j,a,e1,e2,e3⟩:=y9p hk h1 fun a ha=>by
   rcases Ey with h|h
   ·have:=hw a ha;omega
   ·have:=(qp.1 ha).1;omega
  have DA:j<i:=by
   rcases z7 j i with hlt|hge
   ·exact hlt
   ·exfalso;have hjl:=(qp.1 e1).1;rcases Ey with h|h
    ·have ey:=qr (l:=kw) (i:=i) (by omega);have b1:=hw _ ey;have b2:=hk.good.srt i j _ a hge ey e1;omega
    ·omega
  exact(hk.cl j a DA e1).1 (by rw[e2];exact h3)
 unfold mi;rw[Ir hR.few];simp only[qh];have e0:((y,(0:Int)):vE)=QF req.length (y,req):=by unfold QF;simp
 rw[e0,ydw hc h0 Et];simp only[qh];rcases y7q hc h0 rfl rfl rfl 151201 0 [(tS (y,req),0)] (by omega) hi with⟨dF,i',t,w,h1,h2,h3,h4⟩|⟨dF,h1,h4⟩
 ·refine⟨((w:Int),true),(lV _ _ _ h4).trans rfl,fun _=>⟨w,rfl,?_,fun l s c hl hs =>?_⟩,fun e=>by cases e⟩
  ·obtain⟨l,hl⟩:=(h1.good.run _ (qK h2)).run;exact⟨_,t,by have:=hr0.append hl;rwa [qY]at this,h3⟩
  ·rcases z7 c w with hlt|hge
   ·exact(QR h1 l s c hl hs w (fun a ha=>by rw[h2]at ha;cases ha;rfl) (.inl hlt)).elim
   ·exact hge
 ·refine⟨(0,false),(lV _ _ _ h4).trans rfl,fun e=>(by cases e),fun _ l s c hl hs =>?_⟩;exact QR h1 l s c hl hs 0 (fun a ha=>by have:=(qp.1 ha).1;omega) (.inr rfl)
theorem zr6(hw:bB=some true)(y:List (List js))(request:List js)(vp:List Z0):nx y request vp=some true:=by
 unfold nx;rw[hw,qh,zi,qu,y35,qh];cases hf:DV y request with
 |false=>rfl
 |true =>
  have hF:=fB hf;rw[zi,yF];by_cases Wl:(vp.length:Int)>42
  ·rw[jJ Wl];rfl
  ·rw [vG Wl,qu,y7g hF];simp only[qh];have Cz:=Ir hF;have hct:AH request=some request:=I9 (by have:=hF.2.1.1;omega);have Gk:io vp=some vp:=y3p (by omega);by_cases FK:(Ki y).2=0
   ·rw [FK,show((0:Int)==0)=true from rfl,qv,ybf hF.1 (fun q hq=>(hF.2.2 q hq).1)];simp only[qh];by_cases h4:(y.flatten.length:Int)>4
    ·rw[jJ h4];rfl
    ·rw [vG h4,qu,Cz,hct,Gk];simp only[qh];by_cases By:ZB y request=0
     ·have hR:Ready y request:=⟨hF,FK,By,by omega⟩
      have h0:0<y.length:=by
       rcases Nat.eq_zero_or_pos y.length with e|e
       ·exfalso;rw[zn e]at FK;cases FK
       ·exact e
      obtain⟨r,p1,p2,p3⟩:=hR.best;rw[p1];simp only[qh];rw[I8 hR.cx hR.vd hF FK By];simp only[qh];rw[zpc hF,By];simp only[qh,qv,show((0:Int)==0)=true from rfl,show((0:Int)!=0)=false from rfl,qu];rw[zkf hR h0 vp];simp only[qh,bne_self_eq_false,Bool.or_self,qu];obtain⟨r3,w1,w2,w3⟩:=yg8 hR h0;rw[w1];simp only[qh];cases hr:r3.2 with
      |false=>
       have Ys:=w3 hr;cases Wj:r.2 with
       |false=>
        obtain⟨q1,_⟩:=p3 Wj;rw[q1];rfl
       |true=>
        obtain⟨w,_,_,_,_,⟨s,c5,c6⟩,_⟩:=p2 Wj;exact absurd c6 (Ys _ _ _ c5)
      |true=>
       obtain⟨w,e1,⟨l,s,e2,e3⟩,e4⟩:=w2 hr;cases Wj:r.2 with
       |false=>exact absurd e3 ((p3 Wj).2 _ _ _ e2)
       |true=>
        obtain⟨w',c1,c2,c3,c4,⟨s',c5,c6⟩,c7⟩:=p2 Wj;have ew:w=w':=by
         have a1:=e4 _ _ _ c5 c6;have a2:=c7 _ _ _ e2 e3;omega
        simp only[zi,qu];rw[zkf hR h0 r.1,qH (by omega),yag c5 c6,qY,e1,ew];simp
     ·obtain⟨e,he⟩:∃e,ZB y request=e:=⟨_,rfl⟩
      rw[he]at By;have jx:=uo hF;rw[FK,he,show((0:Int)!=0)=false from rfl,qu,show(e==0)=false by rw[qU];exact By,qu]at jx;have h1:Ck y request=some ([],e):=by
       unfold Ck;rw[jx,qh];simp only;rw[show(e !=0)=true by rw[zP];exact By,qv]
      have h2:Cm y request vp=some (0,e):=by
       unfold Cm;rw[jx,qh,Ja,qh,CR (by simp),qh];have:∀z:Int,J3 [e,z]=e:=fun z=>by
        unfold J3;simp[By]
       simp only;rw[this,show(e !=0)=true by rw[zP];exact By,qv]
      rw[h1];simp only[qh];rw[h2];simp only[qh];rw[zpc hF,he];simp only[qh,qv,show((0:Int)==0)=true from rfl];rw[show(e !=0)=true by rw[zP];exact By,qv];simp
   ·obtain⟨e,he⟩:∃e,(Ki y).2=e:=⟨_,rfl⟩
    rw[he]at FK⊢;have jx:=uo hF;rw[he,show(e !=0)=true by rw[zP];exact FK,qv]at jx;have h1:Ck y request=some ([],e):=by
     unfold Ck;rw[jx,qh];simp only;rw[show(e !=0)=true by rw[zP];exact FK,qv]
    have h2:Cm y request vp=some (0,e):=by
     unfold Cm;rw[jx,qh,Ja,qh,CR (by simp),qh];have:∀z:Int,J3 [e,z]=e:=fun z=>by
      unfold J3;simp[FK]
     simp only;rw[this,show(e !=0)=true by rw[zP];exact FK,qv]
    rw[show(e==0)=false by rw[qU];exact FK,qu];simp only[qh,qu];rw[Cz,hct,Gk];simp only[qh];rw[h1];simp only[qh];rw[h2];simp only[qh];rw[show(e !=0)=true by rw[zP];exact FK,qv];simp
end Go.Lift
