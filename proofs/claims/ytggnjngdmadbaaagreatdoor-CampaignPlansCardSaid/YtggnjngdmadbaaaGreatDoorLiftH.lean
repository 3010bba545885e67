/-
  Regions in whatever order; joins.
-/
import Derived.Test.YtggnjngdmadbaaaGreatDoorLiftG
set_option linter.all false
namespace Go.Lift
open Go Go.RowKit
variable [wB] [Mf]
variable {P:Program} {Γ:QW} {σ τ σ' τ':St} {all:List Oper}
def D1(all:List Oper)(g:Option (Nat×Bool))(i:Nat)(σ:St):Prop:=
 match g with
 |none=>True
 |some (j,w)=>j<i∧∃d o,Vr all j=some d∧σ.env d=some (.data .bool w o)
theorem z9j.log{l1 l2:QD}:∀{l:List Nat} {σ τ:St},(∀i f,i∈l→(i,f)∈l2→(i,f)∈l1)→z9j Γ all l1 l σ τ→z9j Γ all l2 l σ τ
 |[],_,_,_,h=>h
 |i::l,_,_,hl,⟨o,σ2,h1,h2,h3,h4⟩=>
  ⟨o,σ2,h1,fun f hf=>h2 f (hl i f (by simp) hf),h3,h4.log fun j f hj=>hl j f (qo _ hj)⟩
theorem y1b{o:Oper}{i:Nat}(h:D1 all o.guard i σ):Yw all o σ=some true:=by
 unfold D1 at h;unfold Yw;cases hg:o.guard with
 |none=>rfl
 |some jw=>
  obtain⟨j,w⟩:=jw;rw[hg]at h;obtain⟨_,d,ow,hd,he⟩:=h;simp only[hd,he,beq_self_eq_true]
theorem Im{o:Oper}{i:Nat}(h:D1 all o.guard i σ):stepG Γ all o σ=ZI Γ o σ:=by
 unfold stepG;rw[y1b h]
theorem y32(o:Oper)(s:Nat)(h:o.dst≠some s):(σ.forget1 o).env s=σ.env s:=by
 unfold St.forget1;split
 ·rename_i d hd;simp only;exact uu _ _ _ (by rw[←hd];exact h)
 ·exact uu _ _ _ h
theorem zr1(o:Oper)(s:Nat)(h:o.dst=some s):(σ.forget1 o).env s=none:=by
 unfold St.forget1;split
 ·rename_i d hd;rw[h]at hd;cases hd;exact jy _ _ _
 ·rw[h];exact jy _ _ _
theorem y33(o:Oper):(σ.forget1 o).box=σ.box:=by
 unfold St.forget1;split
 ·rfl
 ·exact tw _ _
theorem zxy(o:Oper):(σ.forget1 o).dirty=σ.dirty:=by
 unfold St.forget1;split
 ·rfl
 ·exact U9 _ _
theorem y31(o:Oper)(k:Nat):(σ.forget1 o).tok k=true↔σ.tok k=true∨(o.dst=some k∧∃T n ps,o.op = .buildSlice T n ps):=by
 unfold St.forget1;split
 ·rename_i T n ps d jx hd;by_cases hk:k=d
  ·subst hk;simp only[jy,true_iff];exact .inr ⟨hd,T,n,ps,jx⟩
  ·simp only[vN _ _ _ _ hk];constructor
   ·exact .inl
   ·rintro(h|⟨h,_⟩)
    ·exact h
    ·rw[hd]at h;cases h;exact absurd rfl hk
 ·rename_i hx;rw[C1];constructor
  ·exact .inl
  ·rintro(h|⟨h,T,n,ps,jx⟩)
   ·exact h
   ·exact absurd h (hx T n ps k jx)
theorem LR:∀{l:List Oper} {σ:St} {s:Nat} {v:AVal},(σ.forget l).env s=some v→σ.env s=some v∧∀o∈l,o.dst≠some s
 |[],_,_,_,h=>⟨h,fun _ hm=>by simp at hm⟩
 |o::l,σ,s,v,h=>by
  have h':((σ.forget1 o).forget l).env s=some v:=h;obtain⟨h1,h2⟩:=LR h';have ho:o.dst≠some s:=fun e=>by rw[zr1 o s e]at h1;cases h1
  rw[y32 o s ho]at h1;refine⟨h1,fun x hx =>?_⟩;rcases qF.1 hx with rfl|hx
  ·exact ho
  ·exact h2 x hx
theorem UI:∀{l:List Oper} {σ:St},(σ.forget l).box=σ.box
 |[],_=>rfl
 |o::l,σ=>(UI (l:=l) (σ:=σ.forget1 o)).trans (y33 o)
theorem zqn:∀{l:List Oper} {σ:St},(σ.forget l).dirty=σ.dirty
 |[],_=>rfl
 |o::l,σ=>(zqn (l:=l) (σ:=σ.forget1 o)).trans (zxy o)
theorem UJ:∀{l:List Oper} {σ:St} {k:Nat},(σ.forget l).tok k=true↔σ.tok k=true∨∃o∈l,o.dst=some k∧∃T n ps,o.op = .buildSlice T n ps
 |[],_,_=>⟨.inl,fun h=>h.elim id fun⟨_,h,_⟩=>by simp at h⟩
 | o::l,σ,k=>by
  have ih:=UJ (l:=l) (σ:=σ.forget1 o) (k:=k);have e:(σ.forget (o::l)).tok k=((σ.forget1 o).forget l).tok k:=rfl;rw[e,ih,y31];constructor
  ·rintro((h|h)|⟨o',hm,h⟩)
   ·exact .inl h
   ·exact .inr ⟨o,zR,h⟩
   ·exact .inr ⟨o',qo _ hm,h⟩
  ·rintro(h|⟨o',hm,h⟩)
   ·exact .inl (.inl h)
   ·rcases qF.1 hm with rfl|hm
    ·exact .inl (.inr h)
    ·exact .inr ⟨o',hm,h⟩
theorem Il{lg:QD}{j:Nat}{w:Bool}:∀{l:List Oper} {i p:Nat} {σ:St},l3 (some (j,w)) i p l=true→Seg all p l→
  (∃d o,Vr all j=some d∧σ.env d=some (.data .bool (!w) o)∧∀q,p≤q→q<p+l.length→Vr all q≠some d)→
  (∀q,i≤q→q<p→∃d,Vr all q=some d∧σ.env d=some .undef∧∀q',p≤q'→q'<p+l.length→Vr all q'≠some d)→
  (QE all).Nodup→(∀q f,p≤q→q<p+l.length→(q,f)∉lg)→
  ∃σ',z9j Γ all lg (List.range' p l.length) σ σ'
 |[],_,_,σ,_,_,_,_,_,_=>⟨σ,rfl⟩
 | o :: l,i,p,σ,wy,YG,hj,hq,ZF,Fe=>by
  simp only[l3,qg,yh,qI]at wy;obtain⟨⟨hg,Do⟩,wy⟩:=wy;have ZT:=YG.head;obtain⟨d0,VT⟩:=Option.isSome_iff_exists.1 Do;have hw:Yw all o σ=some false:=by
   unfold Yw;rcases hg with hg|hg
   ·obtain⟨d,ow,hd,he,_⟩:=hj;rw[hg];simp only[hd,he];cases w<;>rfl
   ·cases X4:o.guard with
    |none=>rw[X4]at hg;cases hg
    |some jw=>
     obtain⟨j',w'⟩:=jw;rw[X4]at hg;simp only[qg,Nat.ble_eq,xw]at hg;obtain⟨d,hd,he,_⟩:=hq j' hg.1 hg.2;simp only[hd,he]
  have hl:(o::l).length=l.length+1:=rfl;have oY:Vr all p=some d0:=by rw[Uz ZT];exact VT
  have Fg:∀d v,σ.env d=some v→Vr all p≠some d→(σ.set o.dst .undef).env d=some v:=fun d v he ju=>by
   rw[Ci _ _ _ _ (by rw[←Uz ZT];exact ju)];exact he
  obtain⟨σ',hc⟩:=Il (lg:=lg) (j:=j) (w:=w) (l:=l) (i:=i) (p:=p+1) (σ:=σ.set o.dst .undef) wy YG.tail
   (by
    obtain⟨d,ow,hd,he,ju⟩:=hj;exact⟨d,ow,hd,Fg d _ he (ju p (by omega) (by omega)),fun q h1 h2=>ju q (by omega) (by omega)⟩)
   (by
    intro q h1 h2;by_cases hqp:q=p
    ·subst hqp;refine⟨d0,oY,by rw[VT];exact jy _ _ _,fun q' h3 h4 he =>?_⟩;obtain⟨o',wQ,VU⟩:=AF he;have:=gw ZF ZT wQ VT VU;omega
    ·obtain⟨d,hd,he,ju⟩:=hq q h1 (by omega);exact⟨d,hd,Fg d _ he (ju p (by omega) (by omega)),fun q' h3 h4=>ju q' (by omega) (by omega)⟩)
   ZF (fun q f h1 h2=>Fe q f (by omega) (by omega))
  refine⟨σ',?_⟩;rw[hl,kh];exact⟨o,_,ZT,fun f hf=>absurd hf (Fe p f (by omega) (by omega)),by unfold stepG;rw[hw],hc⟩
theorem P5{i q:Nat}{l:List Oper}{o:Oper}(YG:Seg all i l)(h1:i≤q)(h2:q<i+l.length)(ho:all[q]?=some o):o∈l:=by
 have hlt:q-i<l.length:=by omega
 have:=YG (q-i) l[q-i] (qr hlt);rw[show i+(q-i)=q by omega,ho]at this;cases this;exact List.getElem_mem hlt
theorem y70(wx:Γ.gown=false){lg:QD}{Z7:List Oper}{i:Nat}{σs σs1:St}(hw:Wk σ σs)(YG:Seg all i Z7)(FT:∀o∈Z7,WX o=true)(lC:σ.forgetOk Z7=true)
  (hc:z9j Γ all lg (List.range' i Z7.length) σs σs1):
  Wk (σ.forget Z7) σs1∧∀s,(∀q,i≤q→q<i+Z7.length→Vr all q≠some s)→σs1.env s=σs.env s:=by
 obtain⟨e1,e2,e3,e4⟩:=IB wx (fun q o hq ho=>by
  rw[xJ]at hq;exact FT o (P5 YG hq.1 hq.2 ho)) hc
 have e1':∀s,(∀q,i≤q→q<i+Z7.length→Vr all q≠some s)→σs1.env s=σs.env s:=fun s hs=>e1 s fun q hq=>by
  rw[xJ]at hq;exact hs q hq.1 hq.2
 refine⟨⟨fun s v hv =>?_,by rw[e2,UI];exact hw.box,by rw[e3,zqn];exact hw.dirty,fun k hk =>?_,fun b B hB =>?_⟩,e1'⟩
 ·obtain⟨h1,h2⟩:=LR hv;rw[e1' s fun q Kd SM he =>?_]
  ·exact hw.env s v h1
  ·obtain⟨o,ho,hd⟩:=AF he;exact h2 o (P5 YG Kd SM ho) hd
 ·rw[UJ];rcases e4 k hk with h|⟨q,o,hq,ho,hd,hb⟩
  ·exact .inl (hw.tok k h)
  ·rw[xJ]at hq;exact .inr ⟨o,P5 YG hq.1 hq.2 ho,hd,hb⟩
 ·rw[UI]at hB;cases ht:(σ.forget Z7).tok b with
  |false=>rfl
  |true=>
   rcases UJ.1 ht with h|⟨o,ho,hd,T,n,ps,jx⟩
   ·rw[hw.dis b B hB]at h;cases h
   ·unfold St.forgetOk at lC;have:=qW.1 lC o ho;simp only[jx,hd,hB,Option.isNone_some]at this;cases this
theorem IA(t:Ty)(x:t.den):Z8 t t x=some x:=by
 unfold Z8;simp
theorem yd3{s:Nat}{b:Bool}(h:σ.bool (.tmp s)=some b):∃o,σ.env s=some (.data .bool b o):=by
 unfold St.bool AVal.get at h;change (match σ.env s with|some (.data t x _)=>Z8 t .bool x|_=>none)=some b at h;split at h
 ·rename_i t x o he;obtain⟨ht,hx⟩:=HQ h;subst ht;have hx:b=x:=hx;subst hx;exact⟨o,he⟩
 ·cases h
theorem yg0{s:Nat}{b:Bool}{o:Own}(h:σ.env s=some (.data .bool b o)):σ.bool (.tmp s)=some b:=by
 unfold St.bool AVal.get;change (match σ.env s with|some (.data t x _)=>Z8 t .bool x|_=>none)=some b;rw[h];exact IA _ _
theorem y92{pk:Oper}{c a b:Operand}{gv v:Bool}{i:Nat}(jx:pk.op = .pick c a b)(ho:D1 all pk.guard i σ)(hc:σ.bool c=some gv)
  (hv:(if gv then σ.bool a else σ.bool b)=some v):stepG Γ all pk σ=some (σ.set pk.dst (.data .bool v [])):=by
 rw[Im ho];unfold ZI;simp only[jK,jx,hc,hv];rfl
theorem zom{x:Operand}{c:Bool}(h:sX x c=true):σ.bool x=some c:=by
 unfold sX at h;split at h
 ·rename_i b;have:b=c:=by simpa using h
  subst this;have h2:σ.opd (.const (.bool b))=some (.data .bool b []):=rfl;unfold St.bool;rw[h2];exact IA _ _
 ·cases h
theorem y1w(i m r:Nat):List.range' i (m+(r+1))=List.range' i m++((i+m)::List.range' (i+m+1) r):=by
 rw[←List.range'_append_1,kh]
theorem U2{g:Option (Nat×Bool)}{i:Nat}(h:D1 all g i σ)(he:∀j d,j<i→Vr all j=some d→σ'.env d=σ.env d){i':Nat}(hi:i≤i'):D1 all g i' σ':=by
 cases g with
 |none=>exact True.intro
 |some jw=>
  obtain⟨hj,d,o,hd,hv⟩:=h;exact⟨qV hj hi,d,o,hd,by rw[he _ _ hj hd];exact hv⟩
theorem y9z{g:Option (Nat×Bool)}{i:Nat}{o pk:Oper}{Z7:List Oper}{w:Bool}{j:Nat}{w0:Bool}{c x:Operand}(hg:o.guard=some (j,w0))(h:Pw all g i o pk Z7 w=some (c,x)):
  ∃a b s,pk.op = .pick c a b∧x=(if w then a else b)∧c = .tmp s∧Vr all j=some s∧j<i∧(∀o∈Z7,WX o=true)∧sX (if w then b else a) (!w)=true∧pk.guard=g∧l3 o.guard i i Z7=true:=by
 unfold Pw at h;split at h
 ·rename_i c' a b j' w' jx X4;rw[hg]at X4;cases X4;rw[Option.ite_none_right_eq_some]at h
  ·obtain⟨KR,h⟩:=h;simp only[qb,qX]at h;obtain⟨rfl,rfl⟩:=h;simp only[qg,xw,qI,qW]at KR;obtain⟨⟨⟨⟨⟨h1,h2⟩,h3⟩,h4⟩,h5⟩,h6⟩:=KR;cases hc:c' with
   |tmp s=>
    rw[hc]at h5;exact⟨a,b,s,by rw[jx,hc],rfl,rfl,by simpa using h5,h1,h2,h3,h4,h6⟩
   |_=>rw[hc]at h5;simp at h5
 ·cases h
theorem y91{gv w e:Bool}{a b x:Operand}(Q0:gv=w)(hx:x=(if w then a else b))(hv:σ.bool x=some e):
  (if gv then σ.bool a else σ.bool b)=some (if w then gv&&e else gv||e):=by
 subst Q0 hx;cases gv<;>simpa using hv
theorem y64{gv w e:Bool}{a b:Operand}(Q0:gv≠w)(hv:σ.bool (if w then b else a)=some (!w)):
  (if gv then σ.bool a else σ.bool b)=some (if w then gv&&e else gv||e):=by
 cases gv<;>cases w<;>first|exact absurd rfl Q0|simpa using hv
theorem y65{gv w v:Bool}{a b x:Operand}(Q0:gv=w)(hx:x=(if w then a else b))(hv:σ.bool x=some v):
  (if gv then σ.bool a else σ.bool b)=some v:=by
 subst Q0 hx;cases gv<;>simpa using hv
theorem yg3{gv w v:Bool}{e:Option Bool}(Q0:gv=w)(h:(bif gv then(if w then e else some true)else(if w then some false else e))=some v):e=some v:=by
 subst Q0;cases gv<;>simpa using h
theorem yd6{gv w v:Bool}{e:Option Bool}{a b:Operand}(Q0:gv≠w)(hv:σ.bool (if w then b else a)=some (!w))
  (h:(bif gv then(if w then e else some true)else(if w then some false else e))=some v):(if gv then σ.bool a else σ.bool b)=some v:=by
 cases gv<;>cases w<;>first|exact absurd rfl Q0|(simp only[qv,qu,yp,zp,qA,qb,zi,yn]at h hv⊢;subst h;exact hv)
theorem y9b{gv w:Bool}(h:gv≠w):gv=!w:=by cases gv<;>cases w<;>first|rfl|exact absurd rfl h
theorem tQ(wx:Γ.gown=false)(ZF:(QE all).Nodup):∀(n:Nat) (g:Option (Nat×Bool)) (i:Nat) (l:List Oper) (σ:St) (lg:QD) {A:Type} (k:St→QD→Option A) (r:A),
  YD Γ all n g i l σ lg k=some r→Seg all i l→(∀e∈lg,e.1<i)→∀σs,Wk σ σs→D1 all g i σs→(g.isSome=true→∀o∈l,WX o=true)→
  ∃σd τ Xl,z9j Γ all Xl (List.range' i l.length) σs σd∧Wk τ σd∧k τ Xl=some r∧(∀j f,(j,f)∈Xl→j<i→(j,f)∈lg)∧∀e∈Xl,e.1<i+l.length
 |0,_,_,_,_,_,_,_,_,h,_,_,_,_,_,_=>by simp only[YD]at h;cases h
 |n+1,_,i,[],σ,lg,_,k,r,h,_,Fe,σs,hw,_,_=>by
  simp only[YD]at h;exact⟨σs,σ,lg,rfl,hw,h,fun _ _ h _=>h,fun e he=>by have:=Fe e he;simpa using this⟩
 | n + 1, g,i,o::rest,σ,lg,A,k,r,h,YG,Fe,σs,hw,jx,FT=>by
  have ZT:=YG.head;simp only[YD]at h;split at h
  ·
   rename_i hg;subst hg;obtain⟨σ1,h1,h2⟩:=y4d h;obtain⟨σs1,XD,v6⟩:=ybe hw h1;have N0:D1 all o.guard (i+1) σs1:=by
    cases X4:o.guard with
    |none=>exact True.intro
    |some jw=>
     rw[←X4];have hq:=I4 wx (FT (by rw[X4];rfl) o (by simp)) XD;refine U2 jx (fun j d hj hd=>hq.env d fun he =>?_) (Nat.le_succ i);obtain⟨o',wQ,VU⟩:=AF hd;have:=gw ZF wQ ZT VU he;omega
   obtain⟨σd,τ,Xl,hc,Cq,hk,XE,JD⟩:=tQ wx ZF n o.guard (i+1) rest σ1 ((i,jG o σ)::lg) k r h2 YG.tail
    (fun e he=>by
     rcases qF.1 he with rfl|he
     ·exact jh i
     ·exact Nat.lt_succ_of_lt (Fe e he)) σs1 v6 N0 (fun hs o' wQ=>FT hs o' (qo _ wQ))
   refine⟨σd,τ,Xl,?_,Cq,hk,fun j f hm hj =>?_,fun e he =>?_⟩
   ·rw[qk,kh];refine⟨o,σs1,ZT,fun f hf =>?_,by rw[Im jx];exact XD,hc⟩;rcases qF.1 (XE i f hf (jh i))with e|hm
    ·cases e;exact(yfo (fun x _=>PJ fun s _ v hv=>hw.env s v hv) (mJ h1)).symm
    ·exact absurd (Fe _ hm) (xi i)
   ·rcases qF.1 (XE j f hm (Nat.lt_succ_of_lt hj))with e|hm
    ·cases e;exact absurd hj (xi i)
    ·exact hm
   ·have:=JD e he;rw[qk];omega
  ·
   rename_i hg;split at h
   ·rename_i pk Q8 j0 w O8 X4;split at h
    ·rename_i c x pV;have Zq:o::rest=F9 g (o::rest)++pk::Q8:=by
      rw[←O8];exact List.takeWhile_append_dropWhile.symm
     generalize F9 g (o::rest)=Z7 at h pV Zq;obtain⟨a,b,s,hpk,hx,Kt,dS,DA,av,Ez,hpg,wy⟩:=y9z X4 pV;have NP:Seg all i Z7:=by rw[Zq]at YG;exact YG.left
     have NN:Seg all (i+Z7.length) (pk::Q8):=by rw[Zq]at YG;exact YG.right
     have jH:(o::rest).length=Z7.length+(Q8.length+1):=by rw[Zq];simp
     have OA:g.isSome=true→∀o'∈Q8,WX o'=true:=fun hs o' wQ=>FT hs o' (by rw[Zq];simp[wQ])
     split at h
     ·rename_i gv S5;subst Kt;split at h
      ·cases h
      ·rename_i lC;have lC:σ.forgetOk Z7=true:=by simpa using lC
       obtain⟨ow,hes⟩:=yd3 S5;have eG:σs.env s=some (.data .bool gv ow):=hw.env s _ hes;have oX:∀q,i≤q→q<i+Z7.length→Vr all q≠some s:=fun q h1 _ he=>by
        obtain⟨o1,Wm,wN⟩:=AF dS;obtain⟨o2,Ze,QL⟩:=AF he;have:=gw ZF Wm Ze wN QL;omega
       have run:∀e,gv=w→YD Γ all n o.guard i Z7 σ [] (fun σ' _=>σ'.bool x)=some e→
         ∃σs1,z9j Γ all [] (List.range' i Z7.length) σs σs1∧σs1.bool x=some e:=fun e Q0 he=>by
        obtain⟨σd,τ,Xl,hc,Cq,hk,_,_⟩:=tQ wx ZF n o.guard i Z7 σ [] (fun σ' _=>σ'.bool x) e he NP (fun e he=>by simp at he) σs hw
         (by rw[X4];exact⟨DA,s,ow,dS,by rw[eG,Q0]⟩) (fun _=>av)
        exact⟨σd,hc.log fun _ _ _ hf=>by simp at hf,Cq.bool hk⟩
       have skip:gv≠w→∃σs1,z9j Γ all [] (List.range' i Z7.length) σs σs1:=fun Q0=>
        Il (j:=j0) (w:=w) (l:=Z7) (i:=i) (p:=i) (by rw[←X4];exact wy) NP
         ⟨s,ow,dS,by rw[eG,y9b Q0],oX⟩
         (fun q h1 h2=>absurd h2 (by omega)) ZF (fun _ _ _ _ hf=>by simp at hf)
       have done:∀v σs1,z9j Γ all [] (List.range' i Z7.length) σs σs1→(if gv then σs1.bool a else σs1.bool b)=some v→
         YD Γ all n g (i+Z7.length+1) Q8 ((σ.forget Z7).set pk.dst (.data .bool v [])) lg k=some r→
         ∃σd τ Xl,z9j Γ all Xl (List.range' i (o::rest).length) σs σd∧Wk τ σd∧k τ Xl=some r∧(∀j f,(j,f)∈Xl→j<i→(j,f)∈lg)∧∀e∈Xl,e.1<i+(o::rest).length:=fun v σs1 Yt hv Zw=>by
        obtain⟨hwg,j8⟩:=y70 wx hw NP av lC Yt;have pj:D1 all g (i+Z7.length) σs1:=U2 jx (fun j d hj hd=>j8 d fun q h1 _ he=>by
         obtain⟨o1,Wm,wN⟩:=AF hd;obtain⟨o2,Ze,QL⟩:=AF he;have:=gw ZF Wm Ze wN QL;omega) (by omega)
        have wI:stepG Γ all pk σs1=some (σs1.set pk.dst (.data .bool v [])):=
         y92 hpk (by rw[hpg];exact pj) (yg0 (by rw[j8 s oX];exact eG)) hv
        have ph:D1 all g (i+Z7.length+1) (σs1.set pk.dst (.data .bool v [])):=U2 pj (fun j d hj hd=>Ci _ _ _ _ fun he=>by
         obtain⟨o1,Wm,wN⟩:=AF hd;have:=gw ZF Wm NN.head wN he;omega) (Nat.le_succ _)
        obtain⟨σd,τ,Xl,Vj,Cq,hk,XE,JD⟩:=tQ wx ZF n g (i+Z7.length+1) Q8 _ lg k r Zw NN.tail
         (fun e he=>by have:=Fe e he;omega) _ (hwg.set pk.dst (.data .bool v [])) ph OA
        have Ys:∀q f,i≤q→(q,f)∈Xl→q<i+Z7.length+1→False:=fun q f h1 h2 h3=>by
         have:=Fe _ (XE q f h2 h3);exact absurd this (by show ¬q<i;omega)
        refine⟨σd,τ,Xl,?_,Cq,hk,fun j f hm hj=>XE j f hm (by omega),fun e he =>?_⟩
        ·rw[jH,y1w];refine z9j.append (Yt.log fun q f hq hf =>?_) ⟨pk,_,NN.head,fun f hf =>?_,wI,Vj⟩
         ·rw[xJ]at hq;exact(Ys q f hq.1 hf (by omega)).elim
         ·exact(Ys _ f (by omega) hf (by omega)).elim
        ·have:=JD e he;omega
       split at h
       ·
        split at h
        ·rename_i e eu;by_cases Q0:gv=w
         ·obtain⟨σs1,Yt,hv⟩:=run e Q0 eu;exact done _ σs1 Yt (y91 Q0 hx hv) h
         ·obtain⟨σs1,Yt⟩:=skip Q0;exact done _ σs1 Yt (y64 Q0 (zom Ez)) h
        ·cases h
       ·obtain⟨v,hv,h⟩:=qi.1 h;by_cases Q0:gv=w
        ·have ZC:YD Γ all n o.guard i Z7 σ [] (fun σ' _=>σ'.bool x)=some v:=yg3 Q0 hv;obtain⟨σs1,Yt,Q4⟩:=run v Q0 ZC;exact done _ σs1 Yt (y65 Q0 hx Q4) h
        ·obtain⟨σs1,Yt⟩:=skip Q0;exact done _ σs1 Yt (yd6 Q0 (zom Ez) hv) h
     ·cases h
    ·cases h
   ·cases h
end Go.Lift
namespace Go.Lift
open Go Go.RowKit
variable [wB] [Mf]
variable {P:Program} {Γ:QW} {σ τ σ' τ':St} {all:List Oper}
structure Up where
 e:Option (Nat×Option AVal)
 b:Option (Nat×Option Box)
 k:Option (Nat×Bool)
 y:Option (Nat×Bool)
 need:Option Nat
def wi{α:Type}(f:Nat→α):Option (Nat×α)→Nat→α
 |none=>f
 |some (k,v)=>vH f k v
theorem AB{α:Type}{f:Nat→α}{u:Option (Nat×α)}{s:Nat}(h:∀v,u≠some (s,v)):wi f u s=f s:=by
 cases u with
 |none=>rfl
 |some kv=>exact vN _ _ _ _ fun e=>h kv.2 (by rw[e])
theorem Em{α:Type}(f:Nat→α)(u:Option (Nat×α))(s:Nat):(∃v,u=some (s,v)∧wi f u s=v)∨((∀v,u≠some (s,v))∧wi f u s=f s):=by
 cases u with
 |none=>exact .inr ⟨(fun _ h=>by cases h),rfl⟩
 |some kv=>
  obtain⟨k,v⟩:=kv;by_cases h:s=k
  ·subst h;exact .inl ⟨v,rfl,jy _ _ _⟩
  ·exact .inr ⟨(fun _ e=>by cases e;exact h rfl),vN _ _ _ _ h⟩
theorem ia{α:Type}{f:Nat→α}{u v:Option (Nat×α)}(h:∀s a b,u=some (s,a)→v=some (s,b)→a=b):wi (wi f u) v=wi (wi f v) u:=by
 funext s
 rcases Em (wi f u) v s with⟨b,hb,e⟩|⟨hb,e⟩
 ·rw[e];rcases Em (wi f v) u s with⟨a,ha,e'⟩|⟨_,e'⟩
  ·rw[e',h s a b ha hb]
  ·rw[e',hb];exact(jy _ _ _).symm
 ·rw[e];rcases Em (wi f v) u s with⟨a,ha,e'⟩|⟨ha,e'⟩
  ·rw[e',ha];exact jy _ _ _
  ·rw[e',AB ha,AB hb]
def Up.ok(u:Up)(σ:St):Prop:=∀d,u.need=some d→σ.box d=none∧σ.tok d=false
def Up.app(u:Up)(σ:St):St:={env:=wi σ.env u.e,box:=wi σ.box u.b,tok:=wi σ.tok u.k,dirty:=wi σ.dirty u.y}
structure Fits (u:Up) (o:Oper) (σ:St):Prop where
 e:∀s v,u.e=some (s,v)→o.dst=some s
 b:∀s B,u.b=some (s,B)→(∃B',B=some B')∧((o.dst=some s∧u.need=some s)∨(jG o σ = .wr s∧calm o=false∧(∃x∈o.op.operands.toList,((∃p,σ.opd x=some (.bptr s p))∨σ.opd x=some (.rowp s)∨σ.opd x=some (.mapp s)))∧∃B0,σ.box s=some B0∧∀B',B=some B'→B'.t=B0.t))
 k:∀s v,u.k=some (s,v)→o.dst=some s∧v=true
 y:∀s v,u.y=some (s,v)→v=true
 need:∀s,u.need=some s→o.dst=some s
def cz(o:Oper):Prop:=calm o=true∨(∃T x y,o.op = .store T x y)∨∃T x i y,o.op = .mapUpdate T x i y
def nW(d:Option Nat)(v:Option AVal):Up:=⟨d.map (·,v),none,none,none,none⟩
theorem tu(d:Option Nat)(v:AVal):(nW d (some v)).app σ=σ.set d v:=by cases d<;>rfl
theorem Ih(d:Option Nat)(v:Option AVal)(o:Oper)(h:o.dst=d):Fits (nW d v) o σ:=by
 refine⟨fun s v hs =>?_,fun _ _ h=>(by cases h),fun _ _ h=>(by cases h),fun _ _ h=>(by cases h),fun _ h=>(by cases h)⟩;cases d with
 |none=>cases hs
 |some d=>cases hs;exact h
theorem y3u(d:Option Nat)(v:Option AVal):(nW d v).ok σ:=fun _ h=>(by cases h)
theorem mK{o:Oper}(hl:cz o)(h:ZI Γ o σ=some σ'):∃u:Up,Fits u o σ∧u.ok σ∧σ'=u.app σ∧∀ρ,jK Γ o ρ=jK Γ o σ→u.ok ρ→ZI Γ o ρ=some (u.app ρ):=by
 have hk:=Tz (Γ:=Γ) o σ;have Qf:∀v,(∀ρ,jK Γ o ρ=jK Γ o σ→ZI Γ o ρ=some (ρ.set o.dst v))→σ'=σ.set o.dst v→∃u:Up,Fits u o σ∧u.ok σ∧σ'=u.app σ∧∀ρ,jK Γ o ρ=jK Γ o σ→u.ok ρ→ZI Γ o ρ=some (u.app ρ):=fun v hv hs=>
  ⟨nW o.dst (some v),Ih _ _ _ rfl,y3u _ _,by rw[tu];exact hs,fun ρ hρ _=>by rw[tu];exact hv ρ hρ⟩
 have key:∀ρ,jK Γ o ρ=jK Γ o σ→ZI Γ o ρ=(jK Γ o σ).runK o.dst ρ some:=fun ρ hρ=>by unfold ZI;rw[hρ]
 unfold ZI at h;generalize jK Γ o σ=e at h hk key Qf;cases e with
 |fail=>cases h
 |val v=>
  simp only[Eff.runK,qb]at h;exact Qf v (fun ρ hρ=>key ρ hρ) h.symm
 |chk c v=>
  cases c with
  |false=>simp[Eff.runK,Lift.chk]at h
  |true=>
   simp only[Eff.runK,Lift.chk,qv,qb]at h;exact Qf v (fun ρ hρ=>key ρ hρ) h.symm
 |cat x y=>
  simp only[Eff.runK]at h key;obtain⟨r,hr,h⟩:=qi.1 h;simp only[qb]at h;exact Qf _ (fun ρ hρ=>by rw[key ρ hρ,hr];rfl) h.symm
 |bytes x=>
  simp only[Eff.runK,qb]at h;exact Qf _ (fun ρ hρ=>key ρ hρ) h.symm
 |call s x=>
  simp only[Eff.runK]at h key;obtain⟨r,hr,h⟩:=qi.1 h;simp only[qb]at h;exact Qf _ (fun ρ hρ=>by rw[key ρ hρ,hr];rfl) h.symm
 |newRow tid e y=>
  simp only[Eff.runK]at h key;cases hd:o.dst with
  |none=>rw[hd]at h;cases h
  |some d=>
   rw[hd]at h key;simp only at h key;split at h
   ·rename_i hb ht;obtain⟨l,Ff,h⟩:=qi.1 h;simp only[qb]at h;refine⟨⟨some (d,some (.rowp d)),some (d,some ⟨tid,.slice e,l,[],true⟩),none,none,some d⟩,⟨fun s v hs=>(by cases hs;exact hd),fun s B' hs =>?_,fun _ _ h=>(by cases h),fun _ _ h=>(by cases h),fun s hs=>(by cases hs;exact hd)⟩,fun d' VU=>(by cases VU;exact⟨hb,ht⟩),h.symm,fun ρ hρ jP =>?_⟩
    ·cases hs;exact⟨⟨_,rfl⟩,.inl ⟨hd,rfl⟩⟩
    ·obtain⟨h1,h2⟩:=jP d rfl;rw[key ρ hρ,h1,h2,Ff];rfl
   ·cases h
 |newOwn e y=>
  simp only[Eff.runK]at h key;cases hd:o.dst with
  |none=>rw[hd]at h;cases h
  |some d=>
   rw[hd]at h key;simp only at h key;split at h
   ·rename_i hb ht;obtain⟨l,Ff,h⟩:=qi.1 h;simp only[qb]at h;refine⟨⟨some (d,some (.data (.slice e) l [([],some d)])),none,some (d,true),none,some d⟩,⟨fun s v hs=>(by cases hs;exact hd),fun s B' hs=>(by cases hs),fun _ _ h=>(by cases h;exact⟨hd,rfl⟩),fun _ _ h=>(by cases h),fun s hs=>(by cases hs;exact hd)⟩,fun d' VU=>(by cases VU;exact⟨hb,ht⟩),h.symm,fun ρ hρ jP =>?_⟩;obtain⟨h1,h2⟩:=jP d rfl;rw[key ρ hρ,h1,h2,Ff];rfl
   ·cases h
 |newIter e F x=>
  simp only[Eff.runK]at h key;cases hd:o.dst with
  |none=>rw[hd]at h;cases h
  |some d=>
   rw[hd]at h key;simp only at h key;split at h
   ·rename_i hb ht;simp only[qb]at h;refine⟨⟨some (d,some (.iter d e F)),some (d,some ⟨0,.str,x,[],false⟩),none,none,some d⟩,⟨fun s v hs=>(by cases hs;exact hd),fun s B' hs =>?_,fun _ _ h=>(by cases h),fun _ _ h=>(by cases h),fun s hs=>(by cases hs;exact hd)⟩,fun d' VU=>(by cases VU;exact⟨hb,ht⟩),h.symm,fun ρ hρ jP =>?_⟩
    ·cases hs;exact⟨⟨_,rfl⟩,.inl ⟨hd,rfl⟩⟩
    ·obtain⟨h1,h2⟩:=jP d rfl;rw[key ρ hρ,h1,h2];rfl
   ·cases h
 |dyn a r φ x=>
  simp only[Eff.runK]at h key;obtain⟨r,hr,h⟩:=qi.1 h;simp only[qb]at h;exact Qf _ (fun ρ hρ=>by rw[key ρ hρ,hr];rfl) h.symm
 |alloc B=>
  simp only[Eff.runK]at h key;cases hd:o.dst with
  |none=>rw[hd]at h;cases h
  |some d=>
   rw[hd]at h key;simp only at h key;split at h
   ·rename_i hb ht;simp only[qb]at h;refine⟨⟨some (d,some (B.ptr d)),some (d,some B),none,none,some d⟩,⟨fun s v hs=>(by cases hs;exact hd),fun s B' hs =>?_,fun _ _ h=>(by cases h),fun _ _ h=>(by cases h),fun s hs=>(by cases hs;exact hd)⟩,fun d' VU=>(by cases VU;exact⟨hb,ht⟩),h.symm,fun ρ hρ jP =>?_⟩
    ·cases hs;exact⟨⟨B,rfl⟩,.inl ⟨hd,rfl⟩⟩
    ·obtain⟨h1,h2⟩:=jP d rfl;rw[key ρ hρ,h1,h2];rfl
   ·cases h
 |store b B=>
  simp only[Eff.runK,qb]at h key;have wb:jG o σ = .wr b∧calm o=false∧(∃x∈o.op.operands.toList,((∃p,σ.opd x=some (.bptr b p))∨σ.opd x=some (.rowp b)∨σ.opd x=some (.mapp b)))∧∃B0,σ.box b=some B0∧B.t=B0.t:=by
   rcases hk with⟨T,x,y,p,B0,jx,hx,hB,WT⟩|⟨T,x,y,z,B0,jx,hx,hB,WT⟩
   ·exact⟨by simp only[jG,jx,hx],by simp only[calm,jx],⟨x,by rw[jx];simp[Op.operands],.inl ⟨p,hx⟩⟩,B0,hB,WT⟩
   ·exact⟨by simp only[jG,jx,hx],by simp only[calm,jx],⟨x,by rw[jx];simp[Op.operands],.inr (.inr hx)⟩,B0,hB,WT⟩
  obtain⟨hf,lD,H4,B0,hB,WT⟩:=wb;refine⟨⟨o.dst.map (·,none),some (b,some B),none,some (b,true),none⟩,⟨fun s v hs =>?_,fun s B' hs =>?_,fun _ _ h=>(by cases h),fun _ _ h=>(by cases h;rfl),fun s hs=>(by cases hs)⟩,fun d' VU=>(by cases VU),?_,fun ρ hρ jP =>?_⟩
  ·cases hd:o.dst with
   |none=>rw[hd]at hs;cases hs
   |some d=>rw[hd]at hs;cases hs;rfl
  ·cases hs;exact⟨⟨B,rfl⟩,.inr ⟨hf,lD,H4,B0,hB,fun B' vB=>by cases vB;exact WT⟩⟩
  ·rw[←h];cases o.dst<;>rfl
  ·rw[key ρ hρ];cases o.dst<;>rfl
 |fresh c e l=>
  simp only[Eff.runK]at h key;cases hd:o.dst with
  |none=>rw[hd]at h;cases h
  |some d=>
   rw[hd]at h key;simp only at h key;split at h
   ·rename_i hb ht;cases c with
    |false=>simp[Lift.chk]at h
    |true=>
    simp only[Lift.chk,qv,qb]at h key;refine⟨⟨some (d,some (.data (.slice e) l [([],some d)])),none,some (d,true),none,some d⟩,⟨fun s v hs=>(by cases hs;exact hd),fun s B' hs=>(by cases hs),fun _ _ h=>(by cases h;exact⟨hd,rfl⟩),fun _ _ h=>(by cases h),fun s hs=>(by cases hs;exact hd)⟩,fun d' VU=>(by cases VU;exact⟨hb,ht⟩),h.symm,fun ρ hρ jP =>?_⟩;obtain⟨h1,h2⟩:=jP d rfl;rw[key ρ hρ,h1,h2];rfl
   ·cases h
 |row c tid e l=>
  simp only[Eff.runK]at h key;cases hd:o.dst with
  |none=>rw[hd]at h;cases h
  |some d=>
   rw[hd]at h key;simp only at h key;split at h
   ·rename_i hb ht;cases c with
    |false=>simp[Lift.chk]at h
    |true=>
     simp only[Lift.chk,qv,qb]at h key;refine⟨⟨some (d,some (.rowp d)),some (d,some ⟨tid,.slice e,l,[],true⟩),none,none,some d⟩,⟨fun s v hs=>(by cases hs;exact hd),fun s B' hs =>?_,fun _ _ h=>(by cases h),fun _ _ h=>(by cases h),fun s hs=>(by cases hs;exact hd)⟩,fun d' VU=>(by cases VU;exact⟨hb,ht⟩),h.symm,fun ρ hρ jP =>?_⟩
     ·cases hs;exact⟨⟨_,rfl⟩,.inl ⟨hd,rfl⟩⟩
     ·obtain⟨h1,h2⟩:=jP d rfl;rw[key ρ hρ,h1,h2];rfl
   ·cases h
 |app e l m src=>
  obtain⟨c,jx,jI⟩:=hk;rcases hl with hl|⟨_,_,_,hl⟩|⟨_,_,_,_,hl⟩
  ·simp[calm,jx,jI]at hl
  ·rw[jx]at hl;cases hl
  ·rw[jx]at hl;cases hl
theorem T3{o:Oper}(hl:cz o)(h:stepG Γ all o σ=some σ'):∃u:Up,Fits u o σ∧u.ok σ∧σ'=u.app σ∧
  ∀ρ,Yw all o ρ=Yw all o σ→(jK Γ o σ ≠ .fail→jK Γ o ρ=jK Γ o σ)→u.ok ρ→stepG Γ all o ρ=some (u.app ρ):=by
 unfold stepG at h;split at h
 ·rename_i hw;obtain⟨u,h1,h2,h3,h4⟩:=mK hl h;exact⟨u,h1,h2,h3,fun ρ hρ he jP=>by unfold stepG;rw[hρ,hw];exact h4 ρ (he (mJ h)) jP⟩
 ·rename_i hw;simp only[qb]at h;exact⟨nW o.dst (some .undef),Ih _ _ _ rfl,y3u _ _,by rw[tu];exact h.symm,fun ρ hρ _ _=>by unfold stepG;rw[hρ,hw,tu]⟩
 ·cases h
theorem ug{a b:List Nat}:CZ a b=true↔∀i,i∈a→i∈b→False:=by
 unfold CZ;simp only[zO,jb];constructor
 ·intro h i ha hb;exact h i ha (zI.2 ⟨i,hb,ym i⟩)
 ·intro h i ha hb;obtain⟨j,hj,e⟩:=zI.1 hb;rw[qq e]at ha;exact h j ha hj
theorem HO{lg:QD}{i:Nat}(h:YV lg i ≠ .other):(i,YV lg i)∈lg:=by
 induction lg with
 |nil=>exact absurd rfl h
 |cons e r ih=>
  obtain⟨j,f⟩:=e;unfold YV at h⊢;cases hb:Nat.beq j i with
  |true=>
   rw[hb]at h;have:=qq hb;subst this;simp
  |false=>
   rw[hb]at h;simp only[qu]at h⊢;exact qo _ (ih h)
theorem An{x:Operand}(h:∀s,x = .tmp s→σ.env s=τ.env s):σ.opd x=τ.opd x:=by
 cases x with
 |tmp s=>exact h s rfl
 |const v=>exact mQ _ (fun s h=>by cases h)
 |_=>exact mQ _ (fun s h=>by cases h)
theorem gZ{o:Oper}(h:∀x∈o.op.operands.toList,σ.opd x=τ.opd x):jG o σ=jG o τ:=by
 cases jx:o.op;case load T x=>rw[jx]at h;simp only[jG,jx,h x (by simp[Op.operands])]
 case store T x y=>rw[jx]at h;simp only[jG,jx,h x (by simp[Op.operands])]
 case indexAddr T x i=>rw[jx]at h;simp only[jG,jx,h x (by simp[Op.operands])]
 case lookup T x i c=>rw[jx]at h;simp only[jG,jx,h x (by simp[Op.operands])]
 case mapUpdate T x i y=>rw[jx]at h;simp only[jG,jx,h x (by simp[Op.operands])]
 case call c=>
  rw[jx]at h;cases jI:c.callee with
  |value x=>simp only[jG,jx,jI]
  |invoke r n=>simp only[jG,jx,jI]
  |builtin b=>
   cases b;case len=>
    simp only[jG,jx,jI];cases hl:c.args.toList with
    |nil=>rfl
    |cons x xs=>
     cases xs with
     |cons _ _=>rfl
     |nil=>simp only[h x (by simp only[Op.operands,Call.operands,jI];simpa using (show x∈c.args.toList by rw[hl];simp))]
   case append=>
    simp only[jG,jx,jI];cases hl:c.args.toList with
    |nil=>rfl
    |cons x xs=>
     cases xs with
     |nil=>rfl
     |cons y ys=>
      cases ys with
      |cons _ _=>rfl
      |nil=>simp only[h x (by simp only[Op.operands,Call.operands,jI];simpa using (show x∈c.args.toList by rw[hl];simp))]
   all_goals simp only[jG,jx,jI]
 all_goals simp only[jG,jx]
theorem nb{o:Oper}(h:∀s,s∈reads all o→σ.env s=τ.env s):Yw all o σ=Yw all o τ:=by
 unfold Yw;cases hg:o.guard with
 |none=>rfl
 |some jw=>
  obtain⟨j,w⟩:=jw;simp only;cases hs:Vr all j with
  |none=>rfl
  |some d=>
   simp only;rw[h d];unfold reads;rw[hg];simp only[zB];refine .inr ?_;change d∈(Vr all j).toList;rw[hs];simp
theorem mem_reads{o:Oper}{s:Nat}(h:.tmp s∈o.op.operands.toList):s∈reads all o:=by
 unfold reads;exact q8 _ (yd.2 ⟨_,h,rfl⟩)
theorem Uj{o:Oper}(h:jG o σ ≠ .other)(h':∀s,jG o σ ≠ .app s)(h'':jG o σ ≠ .idle):cz o:=by
 unfold cz;cases jx:o.op;case store T x y=>exact .inr (.inl ⟨T,x,y,rfl⟩)
 case mapUpdate T x i y=>exact .inr (.inr ⟨T,x,i,y,rfl⟩)
 case makeSlice T n c=>simp[jG,jx]at h
 case call c=>
  left;simp only[calm,jx];cases jI:c.callee with
  |value x=>rfl
  |invoke r n=>rfl
  |builtin b=>
   cases b;case append=>
    exfalso;simp only[jG,jx,jI]at h h' h'';revert h h' h''
    (repeat' split)<;>simp
   all_goals first|rfl|simp[jG,jx,jI]at h
 all_goals exact .inl (by simp only[calm,jx])
def PT(o:Oper)(σ:St):Prop:=∀x∈o.op.operands.toList,∀t,((∃p,σ.opd x=some (.bptr t p))∨σ.opd x=some (.rowp t)∨σ.opd x=some (.mapp t))→∃B,σ.box t=some B
theorem Ug{b:Nat}{f:Foot}(h:f = .rd b∨f = .wr b):J2 (.wr b) f=false∧J2 f (.wr b)=false:=by
 rcases h with rfl|rfl<;>simp[J2]
theorem oq{a b:Oper}{i j:Nat}{lg:QD}{σ1 σ2:St}(hap:gn all lg i j a b=true)(ha:stepG Γ all a σ=some σ1)(hb:stepG Γ all b σ1=some σ2)
  (Ew:∀f,(i,f)∈lg→f=jG a σ) (Cy:∀f,(j,f)∈lg→f=jG b σ1) (Ct:PT b σ):
  ∃σ1',stepG Γ all b σ=some σ1'∧stepG Γ all a σ1'=some σ2∧jG b σ=jG b σ1∧jG a σ1'=jG a σ:=by
 unfold gn at hap;simp only[qg,yh]at hap;obtain⟨⟨wN,QL⟩,DG⟩:=hap;rw[ug]at wN QL;have wN:∀s,a.dst=some s→s∉reads all b∧b.dst≠some s:=fun s hs=>
  ⟨fun hm=>wN s (by rw[hs];simp) (q8 _ hm),fun e=>wN s (by rw[hs];simp) (zx _ (by rw[e];simp))⟩
 have QL:∀s,b.dst=some s→s∉reads all a:=fun s hs hm=>QL s (by rw[hs];simp) hm
 have DL:calm a=false∨calm b=false→J2 (jG a σ) (jG b σ1)=true:=fun hc=>by
  rcases DG with⟨h1,h2⟩|h
  ·rcases hc with hc|hc
   ·rw[h1]at hc;cases hc
   ·rw[h2]at hc;cases hc
  ·have e1:YV lg i ≠ .other:=fun e=>by rw[e]at h;simp[J2]at h
   have e2:YV lg j ≠ .other:=fun e=>by rw[e]at h;cases hh:YV lg i<;>rw[hh]at h<;>simp[J2]at h
   rw[←Ew _ (HO e1),←Cy _ (HO e2)];exact h
 have pM:cz a:=by
  rcases DG with⟨h1,_⟩|h
  ·exact .inl h1
  ·have e1:YV lg i ≠ .other:=fun e=>by rw[e]at h;simp[J2]at h
   exact Uj (σ:=σ) (by rw[←Ew _ (HO e1)];exact e1) (fun s=>by rw[←Ew _ (HO e1)];intro e;rw[e]at h;cases hh:YV lg j<;>rw[hh]at h<;>simp[J2]at h) (by rw[←Ew _ (HO e1)];intro e;rw[e]at h;cases hh:YV lg j<;>rw[hh]at h<;>simp[J2]at h)
 have SU:cz b:=by
  rcases DG with⟨_,h1⟩|h
  ·exact .inl h1
  ·have e1:YV lg j ≠ .other:=fun e=>by rw[e]at h;cases hh:YV lg i<;>rw[hh]at h<;>simp[J2]at h
   exact Uj (σ:=σ1) (by rw[←Cy _ (HO e1)];exact e1) (fun s=>by rw[←Cy _ (HO e1)];intro e;rw[e]at h;cases hh:YV lg i<;>rw[hh]at h<;>simp[J2]at h) (by rw[←Cy _ (HO e1)];intro e;rw[e]at h;cases hh:YV lg i<;>rw[hh]at h<;>simp[J2]at h)
 obtain⟨u,fu,iX,hu,hU⟩:=T3 pM ha;obtain⟨v,fv,vok,hv,hV⟩:=T3 SU hb;have er:∀s,s∈reads all b→σ.env s=σ1.env s:=fun s hs=>by
  rw[hu];exact(AB fun w hw=>(wN s (fu.e s w hw)).1 hs).symm
 have lH:∀x∈b.op.operands.toList,σ.opd x=σ1.opd x:=fun x hx=>An fun s hs=>er s (mem_reads (by rw[←hs];exact hx))
 have ar:∀s,s∈reads all a→(v.app σ).env s=σ.env s:=fun s hs=>AB fun w hw=>QL s (fv.e s w hw) hs
 have Tp:∀x∈a.op.operands.toList,(v.app σ).opd x=σ.opd x:=fun x hx=>An fun s hs=>ar s (mem_reads (by rw[←hs];exact hx))
 have Tk:jG b σ=jG b σ1:=gZ lH;have efa:jG a (v.app σ)=jG a σ:=gZ Tp;have To:∀x∈b.op.operands.toList,∀t,((∃p,σ1.opd x=some (.bptr t p))∨σ1.opd x=some (.rowp t)∨σ1.opd x=some (.mapp t))→∃B0,σ.box t=some B0∧∃B1,σ1.box t=some B1∧B1.t=B0.t∧(B1=B0∨jG a σ = .wr t∧calm a=false):=fun x hx t ht=>by
  rw[←lH x hx]at ht;obtain⟨B0,Zh⟩:=Ct x hx t ht;refine⟨B0,Zh,?_⟩;rw[hu];rcases Em σ.box u.b t with⟨w,hw,e⟩|⟨_,e⟩
  ·obtain⟨⟨B',rfl⟩,hc⟩:=fu.b t w hw;refine⟨B',e,?_⟩;rcases hc with⟨_,hn⟩|⟨h1,h2,_,B00,h3,h4⟩
   ·rw[(iX t hn).1]at Zh;cases Zh
   ·rw[Zh]at h3;cases h3;exact⟨h4 B' rfl,.inr ⟨h1,h2⟩⟩
  ·exact⟨B0,e.trans Zh,rfl,.inl rfl⟩
 have eb:jK Γ b σ1 ≠ .fail→jK Γ b σ=jK Γ b σ1:=fun ju=>Sn ⟨fun x hx =>.inr (lH x hx),fun x hx t p ht B hB=>by
   obtain⟨B0,h0,B1,h1,h2,_⟩:=To x hx t (.inl ⟨p,ht⟩);rw[h1]at hB;cases hB;rw[h0,h2];rfl,fun x hx t ht hf B hB=>by
   obtain⟨B0,h0,B1,h1,_,h3⟩:=To x hx t ht;rw[h1]at hB;cases hB;rcases h3 with rfl|⟨h3,h4⟩
   ·exact h0
   ·have:=DL (.inl h4);rw[h3,(Ug hf).1]at this;cases this⟩ ju
 have oh:v.ok σ:=fun d hd=>by
  obtain⟨h1,h2⟩:=vok d hd;rw[hu]at h1 h2;constructor
  ·rcases Em σ.box u.b d with⟨w,hw,e⟩|⟨_,e⟩
   ·obtain⟨⟨B',rfl⟩,_⟩:=fu.b d w hw;exact absurd (e.symm.trans h1) (by simp)
   ·exact e.symm.trans h1
  ·rcases Em σ.tok u.k d with⟨w,hw,e⟩|⟨_,e⟩
   ·obtain⟨_,rfl⟩:=fu.k d w hw;exact absurd (e.symm.trans h2) (by simp)
   ·exact e.symm.trans h2
 have nob:∀d B,v.b=some (d,B)→u.need≠some d:=fun d B hvb hn=>by
  have eI:=fu.need d hn;rcases(fv.b d B hvb).2 with⟨h1,_⟩|⟨_,_,⟨x,hx,hp⟩,_⟩
  ·exact(wN d eI).2 h1
  ·obtain⟨B0,h0,_⟩:=To x hx d hp;rw[(iX d hn).1]at h0;cases h0
 have bx2:∀t B,σ.box t=some B→∃B1,(v.app σ).box t=some B1∧B1.t=B.t∧(B1=B∨jG b σ1 = .wr t∧calm b=false):=fun t B hB=>by
  rcases Em σ.box v.b t with⟨w,hw,e⟩|⟨_,e⟩
  ·obtain⟨⟨B',rfl⟩,hc⟩:=fv.b t w hw;refine⟨B',e,?_⟩;rcases hc with⟨_,hn⟩|⟨h1,h2,⟨x,hx,hp⟩,B00,h3,h4⟩
   ·rw[(oh t hn).1]at hB;cases hB
   ·obtain⟨B0,h0,B1,h5,h6,_⟩:=To x hx t hp;rw[hB]at h0;cases h0;rw[h3]at h5;cases h5;exact⟨(h4 B' rfl).trans h6,.inr ⟨h1,h2⟩⟩
  ·exact⟨B,e.trans hB,rfl,.inl rfl⟩
 have ea:jK Γ a σ ≠ .fail→jK Γ a (v.app σ)=jK Γ a σ:=fun ju=>Sn ⟨fun x hx =>.inr (Tp x hx),fun x hx t p ht B hB=>by
   obtain⟨B1,h1,h2,_⟩:=bx2 t B hB;rw[h1,←h2];rfl,fun x hx t ht hf B hB=>by
   obtain⟨B1,h1,_,h3⟩:=bx2 t B hB;rcases h3 with rfl|⟨h3,h4⟩
   ·exact h1
   ·have:=DL (.inr h4);rw[h3,(Ug hf).2]at this;cases this⟩ ju
 have Na:u.ok (v.app σ):=fun d hd=>by
  obtain⟨h1,h2⟩:=iX d hd;constructor
  ·rcases Em σ.box v.b d with⟨w,hw,_⟩|⟨_,e⟩
   ·exact(nob d w hw hd).elim
   ·exact e.trans h1
  ·rcases Em σ.tok v.k d with⟨w,hw,_⟩|⟨_,e⟩
   ·exact((wN d (fu.need d hd)).2 (fv.k d w hw).1).elim
   ·exact e.trans h2
 have s1:=hV σ (nb er) eb oh;have s2:=hU (v.app σ) (nb ar) ea Na;refine⟨_,s1,?_,Tk,efa⟩;rw[s2,hv,hu];have c1:wi (wi σ.env v.e) u.e=wi (wi σ.env u.e) v.e:=ia fun s x y hx hy=>((wN s (fu.e s y hy)).2 (fv.e s x hx)).elim
 have c2:wi (wi σ.box v.b) u.b=wi (wi σ.box u.b) v.b:=ia fun s x y hx hy=>by
  exfalso;rcases(fu.b s y hy).2 with⟨h1,h2⟩|⟨h1,h2,_⟩
  ·exact nob s x hx h2
  ·rcases(fv.b s x hx).2 with⟨_,h3⟩|⟨h3,_⟩
   ·have:=(vok s h3).1;rw[hu]at this;obtain⟨⟨B',rfl⟩,_⟩:=fu.b s y hy;change wi σ.box u.b s=none at this;rw[hy]at this;exact absurd ((jy _ _ _).symm.trans this) (by simp)
   ·have:=DL (.inl h2);rw[h1,h3,(Ug (.inr rfl)).1]at this;cases this
 have c3:wi (wi σ.tok v.k) u.k=wi (wi σ.tok u.k) v.k:=ia fun s x y hx hy=>(fv.k s x hx).2.trans (fu.k s y hy).2.symm
 have c4:wi (wi σ.dirty v.y) u.y=wi (wi σ.dirty u.y) v.y:=ia fun s x y hx hy=>(fv.y s x hx).trans (fu.y s y hy).symm
 simp only[Up.app,c1,c2,c3,c4]
end Go.Lift
namespace Go.Lift
open Go Go.RowKit
variable [wB] [Mf]
variable {P:Program} {Γ:QW} {σ τ σ' τ':St} {all:List Oper}
def AVal.loseO:Option Nat→AVal→AVal
 |none,v=>v
 |some k,v=>v.lose k
theorem y4r(k:Option Nat)(s:Nat):(σ.lose k).env s=(σ.env s).map (AVal.loseO k):=by
 cases k with
 |none=>show σ.env s=_;cases σ.env s<;>rfl
 |some k=>rfl
theorem sY(k:Option Nat)(b:Nat):((σ.lose k).box b=none↔σ.box b=none):=by
 cases k with
 |none=>exact Iff.rfl
 |some k=>
  show(σ.box b).map _=none↔_;rw[Option.map_eq_none_iff]
theorem y4q(k:Option Nat)(d:Nat)(h:k≠some d):(σ.lose k).tok d=σ.tok d:=by
 cases k with
 |none=>rfl
 |some k=>
  show(bif Nat.beq d k then false else σ.tok d)=_;cases hb:Nat.beq d k with
  |false=>rfl
  |true=>exact absurd (by rw[qq hb]) h
theorem ig(k:Option Nat){t:Ty}{x:t.den}{o:Own}:∃o',AVal.loseO k (.data t x o) = .data t x o':=by
 cases k with
 |none=>exact⟨o,rfl⟩
 |some k=>exact⟨_,rfl⟩
theorem Aw(k:Option Nat){t:Ty}{x:t.den}:AVal.loseO k (.data t x []) = .data t x []:=by
 cases k<;>rfl
theorem bC(k:Option Nat)(x:Operand):(σ.lose k).opd x=(σ.opd x).map (AVal.loseO k):=by
 cases x with
 |tmp s=>exact y4r k s
 |const v=>cases v<;>first|rfl|(cases k<;>rfl)|(rename_i a;cases a<;>cases k<;>rfl)
 |global g=>rfl
 |func f=>cases k<;>rfl
theorem TQ(k:Option Nat)(x:Operand)(t:Ty):AVal.get ((σ.lose k).opd x) t=AVal.get (σ.opd x) t:=by
 rw[bC];cases σ.opd x with
 |none=>rfl
 |some v=>
  cases v with
  |data u y o=>
   obtain⟨o',e⟩:=ig k (t:=u) (x:=y) (o:=o);show AVal.get (some _) t=_;rw[e];rfl
  |_=>cases k<;>rfl
theorem y9i(k:Option Nat)(T:Option Ty)(x:Operand)(t:Ty):AVal.get ((σ.lose k).opdN T x) t=AVal.get (σ.opdN T x) t:=by
 unfold St.opdN;split
 ·rfl
 ·exact TQ k x t
theorem Cf{k:Option Nat}{x:Operand}{t:Ty}{y:t.den}{o:Own}(h:(σ.lose k).opd x=some (.data t y o)):∃o',σ.opd x=some (.data t y o'):=by
 rw[bC]at h;cases hx:σ.opd x with
 |none=>rw[hx]at h;cases h
 |some v=>
  rw[hx]at h;simp only[zK,qb]at h;cases v with
  |data u z p=>
   obtain⟨p',e⟩:=ig k (t:=u) (x:=z) (o:=p);rw[e]at h;cases h;exact⟨p,rfl⟩
  |_=>cases k<;>cases h
theorem LZ(k:Option Nat)(e:Ty):∀(l:List (Nat×Operand)) (i:Nat),GP e (σ.lose k) i l=GP e σ i l
 |[],_=>rfl
 |(j,o)::l,i=>by
  unfold GP;rw[y9i,LZ k e l]
def nU:Option Nat→Box→Box
 |none,B=>B
 |some k,B=>B.lose k
theorem Lc(k:Option Nat)(b:Nat):(σ.lose k).box b=(σ.box b).map (nU k):=by
 cases k with
 |none=>show σ.box b=_;cases σ.box b<;>rfl
 |some k=>rfl
theorem y2i(k:Option Nat)(B:Box):(nU k B).t=B.t∧HEq (nU k B).x B.x:=by cases k<;>exact⟨rfl,HEq.rfl⟩
theorem zv0(k:Nat)(p:wm)(o:Own):CU (Own.lose k o) p=Own.lose k (CU o p):=by
 unfold CU Own.lose;rw[List.filterMap_filter,List.filter_filterMap];congr 1
 funext x
 obtain⟨q,s⟩:=x;simp only;cases WH p q with
 |none=>simp
 |some r=>
  simp only[zK,Option.filter]
theorem Um{k:Option Nat}{x:Operand}{b:Nat}{p:wm}(h:(σ.lose k).opd x=some (.bptr b p)):σ.opd x=some (.bptr b p):=by
 rw[bC]at h;cases hx:σ.opd x with
 |none=>rw[hx]at h;cases h
 |some v=>
  rw[hx]at h;simp only[zK,qb]at h;cases v with
  |data u z q=>
   obtain⟨p',e⟩:=ig k (t:=u) (x:=z) (o:=q);rw[e]at h;cases h
  |bptr b' p'=>
   have:AVal.loseO k (.bptr b' p') = .bptr b' p':=by cases k<;>rfl
   rw[this]at h;rw[h]
  |_=>cases k<;>cases h
theorem y6n(k:Option Nat){b:Nat}{p:wm}:AVal.loseO k (.bptr b p) = .bptr b p:=by cases k<;>rfl
theorem ycv{o:Oper}{k:Option Nat}(hs:KX o (jG o (σ.lose k))=true)(ju:jK Γ o (σ.lose k) ≠ .fail):
  (∃v,jK Γ o σ = .val v∧jK Γ o (σ.lose k) = .val (v.loseO k))∨(jK Γ o (σ.lose k)=jK Γ o σ∧((∃c v,jK Γ o σ = .chk c v∧v.loseO k=v)∨(∃e l,jK Γ o σ = .fresh true e l)∨(∃T e l,jK Γ o σ = .row true T e l)∨∃a b,jK Γ o σ = .cat a b)):=by
 cases jx:o.op;case move x=>
  cases x with
  |tmp s=>
   left;simp only[jK,jx]at ju⊢;rw[bC]at ju⊢;cases hx:σ.opd (.tmp s)with
   |none=>rw[hx]at ju;exact absurd rfl ju
   |some v=>exact⟨v,rfl,rfl⟩
  |_=>simp[KX,jx]at hs
 case buildSlice t n ps=>
  right;have e:jK Γ o (σ.lose k)=jK Γ o σ:=by
   simp only[jK,jx];cases Γ.ty t with
   |none=>rfl
   |some u=>cases u<;>simp only[LZ]
  refine⟨e,.inr ?_⟩;rw[e]at ju;simp only[jK,jx]at ju⊢;revert ju
  split
  ·split
   ·split
    ·split
     ·intro _;cases o.guard.isNone&&o.dst.any Γ.own with
      |true=>exact .inr (.inl ⟨_,_,_,rfl⟩)
      |false=>exact .inl ⟨_,_,rfl⟩
     ·exact fun ju=>absurd rfl ju
    ·exact fun ju=>absurd rfl ju
   ·exact fun ju=>absurd rfl ju
  ·exact fun ju=>absurd rfl ju
 case fieldAddr s x f=>
  left;simp only[jK,jx]at ju⊢;split at ju;rotate_left
  ·exact absurd rfl ju
  rename_i hf;rw[qH hf,qH hf];cases hT:Γ.ty s with
  |none=>rw[hT]at ju;exact absurd rfl ju
  |some t=>
   rw[hT]at ju;cases hx:(σ.lose k).opd x with
   |none=>rw[hx]at ju;exact absurd rfl ju
   |some v=>
    rw[hx]at ju;cases v with
    |data u y q=>
     obtain⟨q',wn⟩:=Cf hx;rw[wn];cases u with
     |ptr t'=>
      simp only at ju⊢;revert ju
      (repeat' split)<;>intro ju<;>first|exact absurd rfl ju|exact⟨_,rfl,by rw[Aw]⟩|(exfalso;simp_all)
     |_=>exact absurd rfl ju
    |bptr b p=>
     have wn:=Um hx;rw[wn];simp only at ju⊢;rw[Lc]at ju⊢;cases hB:σ.box b with
     |none=>rw[hB]at ju;exact absurd rfl ju
     |some B=>
      rw[hB]at ju;simp only[zK]at ju⊢;cases hA:t.atP (z12 (Γ.nf s) f)with
      |none=>rw[hA]at ju;exact absurd rfl ju
      |some u=>
       rw[hA]at ju;simp only[(y2i k B).1]at ju⊢;by_cases hc:B.t.atP p=some t∧0<u.size
       ·rw[qH hc];exact⟨_,rfl,by rw[y6n]⟩
       ·rw[qT hc]at ju;exact absurd rfl ju
    |_=>exact absurd rfl ju
 case load t x=>
  have hd:(∃u y p,(σ.lose k).opd x=some (.data u y p))∨∃b p,(σ.lose k).opd x=some (.bptr b p):=by
   simp only[KX,jx,jG]at hs;revert hs
   cases hx:(σ.lose k).opd x with
   |none=>intro hs;cases hs
   |some v=>cases v<;>intro hs<;>first|exact .inl ⟨_,_,_,rfl⟩|exact .inr ⟨_,_,rfl⟩|cases hs
  rcases hd with⟨u,y,p,hx⟩|⟨b,p,hx⟩
  rotate_left
  ·have wn:=Um hx;left;simp only[jK,jx,hx,wn]at ju⊢;cases hT:Γ.ty t with
   |none=>rw[hT]at ju;exact absurd rfl ju
   |some u=>
    rw[hT]at ju;simp only at ju⊢;rw[Lc]at ju⊢;cases hB:σ.box b with
    |none=>rw[hB]at ju;exact absurd rfl ju
    |some B=>
     rw[hB]at ju;cases k with
     |none=>
      simp only[zK,nU]at ju⊢;cases hg:Qv B.t B.x p u with
      |none=>rw[hg]at ju;exact absurd rfl ju
      |some y=>exact⟨_,rfl,rfl⟩
     |some k=>
      simp only[zK,nU,Box.lose]at ju⊢;cases hg:Qv B.t B.x p u with
      |none=>rw[hg]at ju;exact absurd rfl ju
      |some y=>exact⟨_,rfl,by simp only[AVal.loseO,AVal.lose,zv0]⟩
  obtain⟨p',wn⟩:=Cf hx;left;simp only[jK,jx,hx,wn]at ju⊢;revert ju
  cases Γ.ty t with
  |none=>intro ju;exact absurd rfl ju
  |some w=>
   cases u with
   |ptr t'=>
    simp only;cases hc:Z8 t' w y with
    |none=>intro ju;exact absurd rfl ju
    |some v=>intro _;exact⟨_,rfl,by rw[Aw]⟩
   |_=>intro ju;exact absurd rfl ju
 case indexAddr T x i=>
  have hd:∃u y p,(σ.lose k).opd x=some (.data u y p):=by
   simp only[KX,jx,jG]at hs;revert hs
   cases hx:(σ.lose k).opd x with
   |none=>intro hs;cases hs
   |some v=>cases v<;>intro hs<;>first|exact⟨_,_,_,rfl⟩|cases hs
  obtain⟨u,y,p,hx⟩:=hd;obtain⟨p',wn⟩:=Cf hx;right;have e:jK Γ o (σ.lose k)=jK Γ o σ:=by
   simp only[jK,jx,hx,wn,TQ];cases AVal.get (σ.opd i) (.int .i64)with
   |none=>rfl
   |some j=>
    cases Γ.ty T with
    |none=>cases u<;>rfl
    |some w=>
     cases w<;>cases u<;>first|rfl|(rename_i a;cases a<;>rfl)
  refine⟨e,.inl ?_⟩;rw[e]at ju;simp only[jK,jx,wn]at ju⊢;revert ju
  (repeat' split)<;>intro ju<;>first|exact absurd rfl ju|exact⟨_,_,rfl,Aw k⟩|(exfalso;simp_all)
 case slice T x lo hi mx=>
  cases mx with
  |some m=>exact absurd (by simp only[jK,jx]) ju
  |none=>
  cases hx:(σ.lose k).opd x with
  |none=>
   refine absurd ?_ ju;simp only[jK,jx,hx];split
   ·rfl
   ·cases Γ.ty T with
    |none=>rfl
    |some w=>cases w<;>rfl
  |some v=>
  cases v with
  |data u y p=>
   obtain⟨p',wn⟩:=Cf hx;have e:jK Γ o (σ.lose k)=jK Γ o σ:=by
    simp only[jK,jx,hx,wn,TQ];split
    ·rfl
    ·cases Γ.ty T with
     |none=>cases u<;>rfl
     |some w=>cases w<;>cases u<;>first|rfl|(rename_i a;cases a<;>rfl)
   have key:jK Γ o σ = .fail∨(∃c v,jK Γ o σ = .chk c v∧v.loseO k=v)∨∃v,jK Γ o σ = .val v∧v.loseO k=v:=by
    simp only[jK,jx,wn]
    (repeat' split)<;>first|exact .inl rfl|exact .inr (.inl ⟨_,_,rfl,Aw k⟩)|exact .inr (.inr ⟨_,rfl,Aw k⟩)|(exfalso;simp_all)
   rcases key with h|⟨c,v,h1,h2⟩|⟨v,h1,h2⟩
   ·rw[e]at ju;exact absurd h ju
   ·exact .inr ⟨e,.inl ⟨c,v,h1,h2⟩⟩
   ·exact .inl ⟨v,h1,by rw[e,h1,h2]⟩
  |_=>
   refine absurd ?_ ju;simp only[jK,jx,hx];split
   ·rfl
   ·cases Γ.ty T with
    |none=>rfl
    |some w=>cases w<;>rfl
 case binOp op T x y U=>
  have BB:op = .add:=by cases op<;>first|rfl|(simp[KX,jx]at hs;done)
  subst BB;have hd:(∃i a p j b q,(σ.lose k).opd x=some (.data (.int i) a p)∧(σ.lose k).opd y=some (.data (.int j) b q))∨(∃a p b q,(σ.lose k).opd x=some (.data .str a p)∧(σ.lose k).opd y=some (.data .str b q)):=by
   simp only[jK,jx]at ju;revert ju
   split<;>intro ju
   ·exact .inl ⟨_,_,_,_,_,_,by assumption,by assumption⟩
   ·exact .inr ⟨_,_,_,_,by assumption,by assumption⟩
   all_goals
    exfalso;revert ju
    (repeat' split)<;>intro ju<;>first|exact ju rfl|(simp_all;done)
  rcases hd with⟨i,a,p,j,b,q,h1,h2⟩|⟨a,p,b,q,h1,h2⟩
  ·obtain⟨p',JU⟩:=Cf h1;obtain⟨q',BU⟩:=Cf h2;left;simp only[jK,jx,h1,h2,JU,BU]at ju⊢;by_cases X3:i=j
   ·rw[qH X3];exact⟨_,rfl,by simp only[oa];rw[Aw]⟩
   ·rw[qT X3]at ju;exact absurd rfl ju
  ·obtain⟨p',JU⟩:=Cf h1;obtain⟨q',BU⟩:=Cf h2;right;refine⟨by simp only[jK,jx,h1,h2,JU,BU],.inr (.inr (.inr ⟨a,b,?_⟩))⟩;simp only[jK,jx,JU,BU]
 all_goals simp[KX,jx]at hs
def Ya(d:Nat)(v:AVal)(S:St):St:={S with env:=vH S.env d (some v),tok:=vH S.tok d true}
theorem mE(k:Option Nat)(d:Option Nat)(v:AVal):(σ.set d v).lose k=(σ.lose k).set d (v.loseO k):=by
 cases k with
 |none=>rfl
 |some k=>
  cases d with
  |none=>rfl
  |some d=>
   unfold St.set St.lose;simp only[St.mk.injEq,zA];funext s
   unfold vH;cases Nat.beq s d<;>rfl
theorem yce(k:Option Nat)(d:Nat)(v:AVal)(h:k≠some d):(Ya d v σ).lose k=Ya d (v.loseO k) (σ.lose k):=by
 cases k with
 |none=>rfl
 |some k=>
  unfold Ya St.lose;simp only[St.mk.injEq,zA,kO];constructor
  ·funext s
   unfold vH;cases Nat.beq s d<;>rfl
  ·funext s
   unfold vH;cases hb:Nat.beq s d with
   |false=>rfl
   |true=>
    cases hc:Nat.beq s k with
    |false=>rfl
    |true=>exact absurd (by rw[←qq hb,←qq hc]) h
theorem yby(k:Option Nat){t:Ty}{x:t.den}{d:Nat}(h:k≠some d):AVal.loseO k (.data t x [([],some d)]) = .data t x [([],some d)]:=by
 cases k with
 |none=>rfl
 |some k=>
  show AVal.data t x (Own.lose k _)=_;have:Own.lose k [([],some d)]=[([],some d)]:=by
   unfold Own.lose;rw[List.filter_cons,qH (by simp only[zP];exact fun e=>h e.symm)];rfl
  rw[this]
theorem ycd(k:Option Nat)(d T:Nat)(t:Ty)(l:List t.den):
  ({σ with env:=vH σ.env d (some (.rowp d)),box:=vH σ.box d (some ⟨T,.slice t,l,[],true⟩)}:St).lose k={σ.lose k with env:=vH (σ.lose k).env d (some (.rowp d)),box:=vH (σ.lose k).box d (some ⟨T,.slice t,l,[],true⟩)}:=by
 cases k with
 |none=>rfl
 |some k=>
  simp only[St.lose,St.mk.injEq,zA];refine⟨?_,?_⟩
  ·funext s
   by_cases h:s=d
   ·subst h;simp only[jy];rfl
   ·simp only[vN _ _ _ _ h]
  ·funext s
   by_cases h:s=d
   ·subst h;simp only[jy];rfl
   ·simp only[vN _ _ _ _ h]
theorem y82{o:Oper}{k:Option Nat}{S:St}(hs:KX o (jG o (σ.lose k))=true)(hk:∀d,o.dst=some d→k≠some d)(h:ZI Γ o (σ.lose k)=some S):∃σ',ZI Γ o σ=some σ'∧σ'.lose k=S:=by
 have ju:=mJ h;unfold ZI at h⊢;rcases ycv hs ju with⟨v,e1,e2⟩|⟨e,⟨c,v,e1,e2⟩|⟨t,l,e1⟩|⟨T,t,l,e1⟩|⟨sa,sb,e1⟩⟩
 ·rw[e1];rw[e2]at h;simp only[Eff.runK,qb]at h⊢;exact⟨_,rfl,by rw[mE];exact h⟩
 ·rw[e,e1]at h;rw[e1];cases c with
  |false=>simp[Eff.runK,Lift.chk]at h
  |true=>
   simp only[Eff.runK,Lift.chk,qv,qb]at h⊢;exact⟨_,rfl,by rw[mE,e2];exact h⟩
 ·rw[e,e1]at h;rw[e1];simp only[Eff.runK]at h⊢;cases hd:o.dst with
  |none=>rw[hd]at h;cases h
  |some d=>
   rw[hd]at h;have Wo:=hk d hd;simp only at h⊢;split at h
   ·rename_i hb ht;rw[(sY k d).1 hb,show σ.tok d=false by rw[←y4q k d Wo];exact ht];simp only[Lift.chk,qv,qb]at h⊢;refine⟨_,rfl,?_⟩;rw[←h];have:=yce (σ:=σ) k d (.data (.slice t) l [([],some d)]) Wo;rw[yby k Wo]at this;exact this
   ·cases h
 ·rw[e,e1]at h;rw[e1];simp only[Eff.runK]at h⊢;cases hd:o.dst with
  |none=>rw[hd]at h;cases h
  |some d=>
   rw[hd]at h;have Wo:=hk d hd;simp only at h⊢;split at h
   ·rename_i hb ht;rw[(sY k d).1 hb,show σ.tok d=false by rw[←y4q k d Wo];exact ht];simp only[Lift.chk,qv,qb]at h⊢;refine⟨_,rfl,?_⟩;rw[←h];exact ycd k d T t l
   ·cases h
 ·rw[e,e1]at h;rw[e1];simp only[Eff.runK]at h⊢;obtain⟨r,hr,h⟩:=qi.1 h;simp only[qb]at h;refine⟨_,by rw[hr];rfl,?_⟩;rw[mE,Aw];exact h
theorem yg6{o : Oper}(ha:cu o=true)(ju:jK Γ o σ ≠ .fail):∃e l m s,jK Γ o σ = .app e l m s∧jG o σ = .app s∧∀ρ:St,(∀x∈o.op.operands.toList,ρ.opd x=σ.opd x)→jK Γ o ρ=jK Γ o σ∧jG o ρ=jG o σ:=by
 cases jx:o.op
 case call c =>
  cases jI:c.callee with
  |builtin b =>
   cases b
   case append =>
    have hf:∀ρ:St,(∀x∈o.op.operands.toList,ρ.opd x=σ.opd x)→jG o ρ=jG o σ:=fun ρ hρ=>gZ hρ
    rw[jx]at hf;cases hl:c.args.toList with
    |nil=>simp only[jK,jx,jI,hl]at ju;exact absurd rfl ju
    |cons x xs =>
     cases xs with
     |nil=>simp only[jK,jx,jI,hl]at ju;exact absurd rfl ju
     |cons y ys =>
      cases ys with
      |cons _ _=>simp only[jK,jx,jI,hl]at ju;exact absurd rfl ju
      |nil =>
       cases ZT:c.argTypes.toList with
       |nil=>simp only[jK,jx,jI,hl,ZT]at ju;exact absurd rfl ju
       |cons T Ts =>
        cases Ts with
        |nil=>simp only[jK,jx,jI,hl,ZT]at ju;exact absurd rfl ju
        |cons U Us=>
         cases Us with
         |cons _ _=>simp only[jK,jx,jI,hl,ZT]at ju;exact absurd rfl ju
         |nil =>
          have mx:x∈(Op.call c).operands.toList:=by simp only[Op.operands,Call.operands,jI];simpa using (show x∈c.args.toList by rw[hl];simp)
          have my:y∈(Op.call c).operands.toList:=by simp only[Op.operands,Call.operands,jI];simpa using (show y∈c.args.toList by rw[hl];simp)
          have Dq:∀ρ:St,(∀z∈(Op.call c).operands.toList,ρ.opd z=σ.opd z)→jK Γ o ρ=jK Γ o σ∧jG o ρ=jG o σ:=fun ρ hρ=>
           ⟨by simp only[jK,jx,jI,hl,ZT,hρ x mx,hρ y my],hf ρ hρ⟩
          have BF:∃e l m s t z ow,jK Γ o σ = .app e l m s∧σ.opd x=some (.data t z ow)∧GG ow=some s:=by
           simp only[jK,jx,jI,hl,ZT]at ju⊢;revert ju
           cases hx:σ.opd x with
           |none=>intro ju;exact absurd rfl ju
           |some v=>
            cases v with
            |data t z ow=>
             cases t with
             |slice e=>
              cases hy:σ.opd y with
              |none=>intro ju;exact absurd rfl ju
              |some w=>
               cases w with
               |data t' z' ow'=>
                cases t' with
                |slice e'=>
                 simp only;split
                 ·cases hm:Z8 (.slice e') (.slice e) z' with
                  |none=>intro ju;exact absurd rfl ju
                  |some m=>
                   cases ht:GG ow with
                   |none=>intro ju;exact absurd rfl ju
                   |some s=>intro _;exact⟨e,z,m,s,_,_,ow,rfl,rfl,ht⟩
                 ·intro ju;exact absurd rfl ju
                |_=>intro ju;exact absurd rfl ju
               |_=>intro ju;exact absurd rfl ju
             |_=>intro ju;exact absurd rfl ju
            |_=>intro ju;exact absurd rfl ju
          obtain⟨e,l,m,s,t,z,ow,h1,hx,h2⟩:=BF;refine⟨e,l,m,s,h1,?_,Dq⟩;simp only[jG,jx,jI,hl,hx,h2]
   all_goals simp[cu,jx,jI]at ha
  |_=>simp[cu,jx,jI]at ha
 all_goals simp[cu,jx]at ha
theorem Tw{o:Oper}{σ1:St}(ha:cu o=true)(h:ZI Γ o σ=some σ1):∃d v s,o.dst=some d∧σ1=Ya d v (σ.lose s)∧jG o σ = .app s∧(σ.lose s).box d=none∧(σ.lose s).tok d=false∧
  ∀ρ:St,(∀x∈o.op.operands.toList,ρ.opd x=σ.opd x)→(ρ.lose s).box d=none→(ρ.lose s).tok d=false→ZI Γ o ρ=some (Ya d v (ρ.lose s))∧jG o ρ=jG o σ:=by
 obtain⟨e,l,m,s,h1,h2,h3⟩:=yg6 ha (mJ h);unfold ZI at h;rw[h1]at h;simp only[Eff.runK]at h;cases hd:o.dst with
 |none=>rw[hd]at h;cases h
 |some d=>
  rw[hd]at h;simp only at h;split at h
  ·rename_i hb ht;obtain⟨r,hr,h⟩:=qi.1 h;simp only[qb]at h;refine⟨d,.data (.slice e) r [([],some d)],s,rfl,h.symm,h2,hb,ht,fun ρ hρ X5 NL =>?_⟩;obtain⟨e1,e2⟩:=h3 ρ hρ;refine⟨?_,e2⟩;unfold ZI;rw[e1,h1,hd];simp only[Eff.runK];rw[X5,NL];simp only;rw[hr];rfl
  ·cases h
theorem y83{o:Oper}{f:Foot}(h:KX o f=true):calm o=true:=by
 cases jx:o.op<;>first|(simp[KX,jx]at h;done)|(simp only[calm,jx])
theorem y5s{o:Oper}{f:Foot}(h:KX o .other=true):KX o f=true:=by
 unfold KX at h⊢;revert h
 cases o.op with
 |move x=>cases x<;>intro h<;>first|exact h|cases h
 |binOp op=>cases op<;>intro h<;>first|exact h|cases h
 |_=>intro h;first|exact h|cases h
theorem P1{d:Nat}{v:AVal}{x:Operand}(h:x ≠ .tmp d):(Ya d v σ).opd x=σ.opd x:=by
 cases x with
 |tmp s=>exact vN _ _ _ _ fun e=>h (by rw[e])
 |const c=>exact mQ _ (fun s h=>by cases h)
 |_=>exact mQ _ (fun s h=>by cases h)
theorem ya7{o:Oper}{k:Option Nat}(hs:KX o (jG o (σ.lose k))=true):jG o σ=jG o (σ.lose k):=by
 cases jx:o.op;case move x=>simp only[jG,jx]
 case buildSlice t n ps=>simp only[jG,jx]
 case fieldAddr s x f=>simp only[jG,jx]
 case slice T x lo hi mx=>simp only[jG,jx]
 case binOp op T x y U=>simp only[jG,jx]
 case load t x=>
  simp only[KX,jx,jG]at hs⊢;revert hs
  cases hx:(σ.lose k).opd x with
  |none=>intro hs;cases hs
  |some v=>
   cases v with
   |data u y p=>
    obtain⟨p',wn⟩:=Cf hx;intro _;rw[wn]
   |bptr b p=>
    intro _;rw[Um hx]
   |_=>intro hs;cases hs
 case indexAddr T x i=>
  simp only[KX,jx,jG]at hs⊢;revert hs
  cases hx:(σ.lose k).opd x with
  |none=>intro hs;cases hs
  |some v=>
   cases v with
   |data u y p=>
    obtain⟨p',wn⟩:=Cf hx;intro _;rw[wn]
   |_=>intro hs;cases hs
 all_goals simp[KX,jx]at hs
theorem ya4{a b:Oper}(h:Tj a b=true):a.guard=b.guard:=by
 unfold Tj at h;split at h
 ·rename_i h1 h2;rw[h1,h2]
 ·rename_i i x j y h1 h2;simp only[qg,yo]at h;rw[h1,h2,qq h.1,h.2]
 ·cases h
theorem zyp{a b:Oper}(h:a.guard=b.guard):Yw all a σ=Yw all b σ:=by
 unfold Yw;rw[h]
theorem I6(o:Oper)(k:Option Nat):Yw all o (σ.lose k)=Yw all o σ:=by
 unfold Yw;cases o.guard with
 |none=>rfl
 |some g=>
  obtain⟨j,w⟩:=g;simp only;cases Vr all j with
  |none=>rfl
  |some d=>
   simp only;rw[y4r];cases σ.env d with
   |none=>rfl
   |some v=>
    cases v with
    |data t x own=>
     obtain⟨o',e⟩:=ig k (t:=t) (x:=x) (o:=own);simp only[zK,e];cases t<;>rfl
    |_=>cases k<;>rfl
theorem wanted_put{o:Oper}{d:Nat}{v:AVal}(h:d∉reads all o):Yw all o (Ya d v σ)=Yw all o σ:=by
 refine nb fun s hs =>?_
 show vH σ.env d (some v) s=_;exact vN _ _ _ _ fun e=>h (by rw[←e];exact hs)
theorem UT{o:Oper}{d:Option Nat}{v:AVal}(h:∀s,d=some s→s∉reads all o):Yw all o (σ.set d v)=Yw all o σ:=
 nb fun s hs=>Ci σ d v s fun e=>h s e hs
theorem ybh{d e:Option Nat}{v u:AVal}(h:∀s,d=some s→e≠some s):(σ.set d v).set e u=(σ.set e u).set d v:=by
 cases d with
 |none=>rfl
 |some d=>
  cases e with
  |none=>rfl
  |some e=>
   unfold St.set;simp only[St.mk.injEq,zA];funext s
   by_cases h1:s=d
   ·subst h1;rw[vN _ _ _ _ (fun k=>h s rfl (by rw[k]):s≠e),jy,jy]
   ·by_cases h2:s=e
    ·subst h2;rw[jy,vN _ _ _ _ h1,jy]
    ·rw[vN _ _ _ _ h2,vN _ _ _ _ h1,vN _ _ _ _ h1,vN _ _ _ _ h2]
theorem y51{o:Oper}{d:Option Nat}{v:AVal}(h:∀s,d=some s→s∉reads all o):jG o (σ.set d v)=jG o σ:=
 gZ fun x hx=>An fun s hs=>Ci σ d v s fun e=>h s e (mem_reads (by rw[←hs];exact hx))
theorem Io{a b:Oper}{σ1 σ2:St}(hg:a.guard=b.guard)(wN:∀s,a.dst=some s→s∉reads all b∧b.dst≠some s)(QL:∀s,b.dst=some s→s∉reads all a)
  (ha:stepG Γ all a σ=some σ1) (hb:stepG Γ all b σ1=some σ2)
  (MM:ZI Γ a σ=some σ1→(∀o:Oper,a.guard=o.guard→(∀s,a.dst=some s→s∉reads all o)→Yw all o σ1=Yw all o σ)∧
   (ZI Γ b σ1=some σ2→∃σ1',ZI Γ b σ=some σ1'∧ZI Γ a σ1'=some σ2∧jG b σ=jG b σ1∧jG a σ1'=jG a σ∧Yw all a σ1'=Yw all a σ)):
  ∃σ1',stepG Γ all b σ=some σ1'∧stepG Γ all a σ1'=some σ2∧jG b σ=jG b σ1∧jG a σ1'=jG a σ:=by
 unfold stepG at ha;cases hw:Yw all a σ with
 |none=>rw[hw]at ha;cases ha
 |some c=>
  rw[hw]at ha;have SH:Yw all b σ=some c:=by rw[←zyp hg];exact hw
  cases c with
  |true=>
   simp only at ha;obtain⟨Yt,Vj⟩:=MM ha;have dM:Yw all b σ1=some true:=by rw[Yt b hg fun s hs=>(wN s hs).1];exact SH
   unfold stepG at hb;rw[dM]at hb;obtain⟨σ1',k1,k2,k3,k4,k5⟩:=Vj hb;refine⟨σ1',?_,?_,k3,k4⟩
   ·unfold stepG;rw[SH];exact k1
   ·unfold stepG;rw[k5,hw];exact k2
  |false=>
   simp only[qb]at ha;subst ha;have dM:Yw all b (σ.set a.dst .undef)=some false:=by rw[UT fun s hs=>(wN s hs).1];exact SH
   unfold stepG at hb;rw[dM]at hb;simp only[qb]at hb;subst hb;refine⟨σ.set b.dst .undef,by unfold stepG;rw[SH],?_,(y51 (all:=all) fun s hs=>(wN s hs).1).symm,y51 (all:=all) QL⟩;unfold stepG;rw[UT QL,hw];simp only[qb];exact(ybh fun s hs=>(wN s hs).2).symm
theorem oo{a b:Oper}{i j:Nat}{lg:QD}{σ1 σ2:St}(hap:nZ all lg i j a b=true)(ha:stepG Γ all a σ=some σ1)(hb:stepG Γ all b σ1=some σ2)
  (Ew:∀f,(i,f)∈lg→f=jG a σ) (Cy:∀f,(j,f)∈lg→f=jG b σ1):
  ∃σ1',stepG Γ all b σ=some σ1'∧stepG Γ all a σ1'=some σ2∧jG b σ=jG b σ1∧jG a σ1'=jG a σ:=by
 unfold nZ at hap;simp only[qg]at hap;obtain⟨⟨⟨⟨⟨jx,hge⟩,Dp⟩,wN⟩,QL⟩,FQ⟩:=hap;rw[ug]at wN QL;have wN:∀s,a.dst=some s→s∉reads all b∧b.dst≠some s:=fun s hs=>
  ⟨fun hm=>wN s (by rw[hs];simp) (q8 _ hm),fun e=>wN s (by rw[hs];simp) (zx _ (by rw[e];simp))⟩
 have QL:∀s,b.dst=some s→s∉reads all a:=fun s hs hm=>QL s (by rw[hs];simp) hm
 refine Io (ya4 hge) wN QL ha hb fun ha =>?_
 obtain⟨d,v,s,eS,rfl,OK,Zf,Ve,hA⟩:=Tw jx ha;refine⟨fun o _ ho=>by rw[wanted_put (ho d eS),I6],fun hb =>?_⟩;have hks:∀d2,b.dst=some d2→s≠some d2:=fun d2 OS e=>by
  have e1:YV lg i ≠ .other:=fun e=>by rw[e]at FQ;cases FQ
  have e2:=Ew _ (HO e1);rw[e2,OK,OS]at FQ;simp only[Option.toList,yH,List.any_nil,xj,zO]at FQ;rw[e]at FQ;simp at FQ
 have H6:KX b (jG b (Ya d v (σ.lose s)))=true:=by
  cases hlj:YV lg j with
  |other=>
   rw[hlj]at Dp;exact y5s Dp
  |_=>
   have e1:YV lg j ≠ .other:=fun e=>by rw[hlj]at e;cases e
   have e2:=Cy _ (HO e1);rw[←e2];exact Dp
 have lH:∀x∈b.op.operands.toList,(Ya d v (σ.lose s)).opd x=(σ.lose s).opd x:=fun x hx=>P1 fun e=>(wN d eS).1 (mem_reads (by rw[←e];exact hx))
 have Tk:jG b (Ya d v (σ.lose s))=jG b (σ.lose s):=gZ lH;have oW:KX b (jG b (σ.lose s))=true:=by rw[←Tk];exact H6
 have jI:=y83 H6;obtain⟨u,fu,iX,hu,hU⟩:=mK (.inl jI) hb;have aC:ZI Γ b (σ.lose s)=some (u.app (σ.lose s)):=by
  refine hU _ ?_ fun e he =>?_
  ·refine Sn ⟨fun x hx =>.inr (lH x hx).symm,fun x hx t p ht B hB =>?_,fun x hx t ht hf B hB=>hB⟩ (mJ hb);have vB:(σ.lose s).box t=some B:=hB;rw[vB];rfl
  ·obtain⟨k1,k2⟩:=iX e he;refine⟨k1,?_⟩;have ju:e≠d:=fun h=>(wN d eS).2 (by rw[←h];exact fu.need e he)
   have:(Ya d v (σ.lose s)).tok e=(σ.lose s).tok e:=vN _ _ _ _ ju;rw[←this];exact k2
 obtain⟨σ',X5,Ff⟩:=y82 oW hks aC;refine⟨σ',X5,?_,?_,?_,?_⟩
 ·obtain⟨w,fw,wok,hw,_⟩:=mK (.inl jI) X5;have Tp:∀x∈a.op.operands.toList,σ'.opd x=σ.opd x:=fun x hx=>An fun t ht=>by
   rw[hw];exact AB fun z hz=>QL t (fw.e t z hz) (mem_reads (by rw[←ht];exact hx))
  have h1:(σ'.lose s).box d=none:=by
   rw[Ff];show wi (σ.lose s).box u.b d=none;rcases Em (σ.lose s).box u.b d with⟨z,hz,e⟩|⟨_,e⟩
   ·obtain⟨_,hc⟩:=fu.b d z hz;rcases hc with⟨q1,_⟩|⟨_,q2,_⟩
    ·exact absurd q1 (wN d eS).2
    ·rw[jI]at q2;cases q2
   ·rw[e];exact Zf
  have h2:(σ'.lose s).tok d=false:=by
   rw[Ff];show wi (σ.lose s).tok u.k d=false;rcases Em (σ.lose s).tok u.k d with⟨z,hz,e⟩|⟨_,e⟩
   ·exact absurd (fu.k d z hz).1 (wN d eS).2
   ·rw[e];exact Ve
  rw[(hA σ' Tp h1 h2).1,Ff,hu];unfold Up.app Ya;simp only[qb,St.mk.injEq,zA,kO];have c1:vH (wi (σ.lose s).env u.e) d (some v)=wi (vH (σ.lose s).env d (some v)) u.e:=
   (ia (f:=(σ.lose s).env) (u:=u.e) (v:=some (d,some v)) fun t x y hx hy=>by
    cases hy;exact absurd (fu.e d x hx) (wN d eS).2)
  have c3:vH (wi (σ.lose s).tok u.k) d true=wi (vH (σ.lose s).tok d true) u.k:=
   (ia (f:=(σ.lose s).tok) (u:=u.k) (v:=some (d,true)) fun t x y hx hy=>by
    cases hy;exact absurd (fu.k d x hx).1 (wN d eS).2)
  exact⟨c1,c3⟩
 ·rw[ya7 oW,Tk]
 ·obtain⟨w,fw,wok,hw,_⟩:=mK (.inl jI) X5;exact gZ fun x hx=>An fun t ht=>by
   rw[hw];exact AB fun z hz=>QL t (fw.e t z hz) (mem_reads (by rw[←ht];exact hx))
 ·obtain⟨w,fw,wok,hw,_⟩:=mK (.inl jI) X5;exact nb fun t ht=>by
   rw[hw];exact AB fun z hz=>QL t (fw.e t z hz) ht
theorem T2{o:Oper}{k:Option Nat}{σ1:St}(hs:D4 o (jG o σ)=true)(h:ZI Γ o σ=some σ1):∃v,σ1=σ.set o.dst v∧∀ρ:St,(∀x∈o.op.operands.toList,ρ.opd x=(σ.lose k).opd x)→ZI Γ o ρ=some (ρ.set o.dst (v.loseO k))∧jG o ρ=jG o σ:=by
 unfold ZI at h⊢;cases jx:o.op;case move x=>
  cases x with
  |tmp s=>
   simp only[jK,jx]at h;cases hx:σ.opd (.tmp s)with
   |none=>rw[hx]at h;cases h
   |some v=>
    rw[hx]at h;simp only[EH,Eff.runK,qb]at h;refine⟨v,h.symm,fun ρ hρ =>?_⟩;have e:=hρ (.tmp s) (by simp[jx,Op.operands]);rw[bC,hx]at e;simp only[jK,jx,e,jG];exact⟨rfl,trivial⟩
  |_=>simp[D4,jx]at hs
 case load t x=>
  have hd:∃u y p,σ.opd x=some (.data u y p):=by
   simp only[D4,jx,jG]at hs;revert hs
   cases hx:σ.opd x with
   |none=>intro hs;cases hs
   |some v=>cases v<;>intro hs<;>first|exact⟨_,_,_,rfl⟩|cases hs
  obtain⟨u,y,p,hx⟩:=hd;obtain⟨p',he⟩:=ig k (t:=u) (x:=y) (o:=p);have vu:x∈(Op.load t x).operands.toList:=by simp[Op.operands]
  simp only[jK,jx,hx]at h;revert h
  cases hT:Γ.ty t with
  |none=>intro h;cases u<;>cases h
  |some w=>
   cases u with
   |ptr t'=>
    simp only;cases hc:Z8 t' w y with
    |none=>intro h;cases h
    |some v=>
     intro h;simp only[EH,zK,Eff.runK,qb]at h;refine⟨_,h.symm,fun ρ hρ =>?_⟩;have e:=hρ x (by simp[jx,Op.operands]);rw[bC,hx,zK,he]at e;simp only[jK,jx,e,jG,hx,hT,hc,Aw];exact⟨rfl,trivial⟩
   |_=>intro h;cases h
 all_goals simp[D4,jx]at hs
theorem I3{o:Oper}{f:Foot}(h:D4 o .other=true):D4 o f=true:=by
 unfold D4 at h⊢;split
 ·rfl
 ·rename_i jx;rw[jx]at h;cases h
 ·rename_i G8 VP;split at h
  ·rename_i jx;exact absurd jx (G8 _)
  ·cases h
  ·cases h
theorem om{a b:Oper}{i:Nat}{lg:QD}{σ1 σ2:St}(hap:n6 all lg i a b=true)(ha:stepG Γ all a σ=some σ1)(hb:stepG Γ all b σ1=some σ2)
  (Ew:∀f,(i,f)∈lg→f=jG a σ):
  ∃σ1',stepG Γ all b σ=some σ1'∧stepG Γ all a σ1'=some σ2∧jG b σ=jG b σ1∧jG a σ1'=jG a σ:=by
 unfold n6 at hap;simp only[qg]at hap;obtain⟨⟨⟨⟨jx,hge⟩,Dp⟩,wN⟩,QL⟩:=hap;rw[ug]at wN QL;have wN:∀s,a.dst=some s→s∉reads all b∧b.dst≠some s:=fun s hs=>
  ⟨fun hm=>wN s (by rw[hs];simp) (q8 _ hm),fun e=>wN s (by rw[hs];simp) (zx _ (by rw[e];simp))⟩
 have QL:∀s,b.dst=some s→s∉reads all a:=fun s hs hm=>QL s (by rw[hs];simp) hm
 have H6:D4 a (jG a σ)=true:=by
  cases hlj:YV lg i with
  |other=>
   rw[hlj]at Dp;exact I3 Dp
  |_=>
   have e1:YV lg i ≠ .other:=fun e=>by rw[hlj]at e;cases e
   have e2:=Ew _ (HO e1);rw[←e2];exact Dp
 refine Io (ya4 hge) wN QL ha hb fun ha =>?_
 obtain⟨v0,rfl,_⟩:=T2 (k:=none) H6 ha;refine⟨fun o _ ho=>UT ho,fun hb =>?_⟩;obtain⟨d,v,s,Zs,rfl,Cy,Zf,Ve,hB⟩:=Tw jx hb;obtain⟨v1,e1,hv⟩:=T2 (k:=s) H6 ha;have opb:∀x∈b.op.operands.toList,σ.opd x=(σ.set a.dst v0).opd x:=fun x hx=>An fun t ht=>(Ci σ a.dst v0 t fun e=>(wN t e).1 (mem_reads (by rw[←ht];exact hx))).symm
 have JM:(σ.lose s).box d=none:=by
  rw[sY]at Zf⊢;rwa [EN]at Zf
 have NK:(σ.lose s).tok d=false:=by
  rw[mE,CO]at Ve;exact Ve
 obtain⟨k1,k2⟩:=hB σ opb JM NK;have opa:∀x∈a.op.operands.toList,(Ya d v (σ.lose s)).opd x=(σ.lose s).opd x:=fun x hx=>P1 fun e=>QL d Zs (mem_reads (by rw[←e];exact hx))
 obtain⟨m1,m2⟩:=hv _ opa;refine⟨_,k1,?_,k2,m2,by rw[wanted_put (QL d Zs),I6]⟩;rw[m1,e1,mE];congr 1
 unfold Ya St.set;cases eI:a.dst with
 |none=>rfl
 |some e=>
  have ju:e≠d:=fun h=>(wN e eI).2 (by rw[h];exact Zs)
  simp only[St.mk.injEq,zA];funext t
  by_cases h1:t=d
  ·subst h1;rw[jy,vN _ _ _ _ (yL ju),jy]
  ·rw[vN _ _ _ _ h1];by_cases h2:t=e
   ·subst h2;rw[jy,jy]
   ·rw[vN _ _ _ _ h2,vN _ _ _ _ h2,vN _ _ _ _ h1]
theorem swap{a b:Oper}{i j:Nat}{lg:QD}{σ1 σ2:St}(hap:apart all lg i j a b=true)(ha:stepG Γ all a σ=some σ1)(hb:stepG Γ all b σ1=some σ2)
  (Ew:∀f,(i,f)∈lg→f=jG a σ) (Cy:∀f,(j,f)∈lg→f=jG b σ1) (Ct:PT b σ):
  ∃σ1',stepG Γ all b σ=some σ1'∧stepG Γ all a σ1'=some σ2∧jG b σ=jG b σ1∧jG a σ1'=jG a σ:=by
 unfold apart at hap;rw[yh,yh]at hap;rcases hap with(h|h)|h
 ·exact oq h ha hb Ew Cy Ct
 ·exact oo h ha hb Ew Cy
 ·exact om h ha hb Ew
end Go.Lift
namespace Go.Lift
open Go Go.RowKit
variable [wB] [Mf]
variable {P:Program} {Γ:QW} {base:Nat} {κ κ':Nat→Option Nat} {M M':Mem} {σ τ σ' τ':St} {a a':Act} {w w':World} {all:List Oper}
theorem UK(i:Nat):Holds κ M w κ M w i:=⟨rfl,fun _ _=>⟨rfl,fun _=>rfl⟩⟩
theorem ydq(hR:jW P base κ M σ a w)(h:Wk τ σ):jW P base κ M τ a w:=by
 refine⟨fun s v hs =>?_,fun b B hb =>?_,hR.good,hR.inj,hR.kap,h.dis,hR.low⟩
 ·have:=hR.env s v (h.env s v hs);rw[h.box]at this;exact this.turn (Mem.le_refl M) (fun _ _=>rfl) (fun i _ hi=>⟨h.tok i hi,UK i⟩) (fun i B _ hB=>⟨B,hB,Alike.refl B⟩)
 ·exact(hR.bx b B (by rw[h.box];exact hb)).turn (Mem.le_refl M) (UK b) (fun _ k _ hk=>⟨h.tok k hk,UK k⟩)
theorem aM{W:List Nat}(h:Fr base W κ M σ a w κ' M' σ' a' w')(hw:Wk τ' σ'):Fr base W κ M σ a w κ' M' τ' a' w':=
 ⟨h.below,h.le,h.mem,h.size,h.defers,h.tmps,fun i hi hd=>h.ids i hi (by rw[hw.dirty];exact hd),fun i hi B' vB=>h.bx i hi B' (by rw[hw.box];exact vB),h.oth,h.same⟩
theorem TZ(hR:jW P base κ M σ a w):jW P base κ M σ a {w with drawn:=w.drawn+1}:=
 ⟨hR.env,hR.bx,⟨wB.keep (w:=w) (Mem.le_refl M) (fun _ c _ fr h=>⟨c,fr,h,rfl⟩) hR.good.1,hR.good.2⟩,hR.inj,hR.kap,hR.dis,hR.low⟩
theorem PQ{W:List Nat}:Fr base W κ M σ a w κ M σ a {w with drawn:=w.drawn+1}:=
 ⟨⟨rfl,rfl,rfl,ql _,fun _ _=>rfl⟩,Mem.le_refl _,fun _ _=>rfl,rfl,.of_eq rfl,fun _ _=>rfl,fun _ _ h=>⟨h,rfl,fun _ _=>⟨rfl,fun _=>rfl⟩⟩,fun _ _ B h=>⟨rfl,B,h,Alike.refl B⟩,fun _ _ h _=>h,.of (fun _ _ _=>rfl) (fun i _ h =>.inl ⟨i,h⟩) fun _ _ _=>rfl⟩
theorem UC{jA:Array Oper}{o:Oper}{b:Bool}(hR:jW P base κ M σ a w)(h:Yw jA.toList o σ=some b):Region.wanted o (yielded jA a.tmps)=b:=by
 unfold Yw at h;unfold Region.wanted;cases hg:o.guard with
 |none=>rw[hg]at h;simpa using h
 |some jw=>
  obtain⟨j,P7⟩:=jw;rw[hg]at h;simp only at h⊢;split at h
  ·rename_i d hd;have VU:(jA[j]?).bind (·.dst)=some d:=by
    unfold Vr at hd;rwa [zh]at hd
   have key:∀v,a.tmps.getD d undef=v→v≠undef→a.tmps[d]?=some v:=fun v hv ju=>by
    rw[qw]at hv;cases he:a.tmps[d]? with
    |none=>rw[he]at hv;exact absurd hv.symm ju
    |some u=>rw[he]at hv;simp only[qO]at hv;rw[hv]
   split at h
   ·rename_i c ow he;have hv:=hR.env d _ he;have hv:=X8.1 hv.1;have ht:=key _ hv (by unfold undef;simp);unfold yielded;rw[VU,qh,ht];simp only[qb]at h;rw[←h];cases c<;>cases P7<;>rfl
   ·rename_i he;have hv:a.tmps.getD d undef=undef:=hR.env d _ he;simp only[qb]at h;subst h;unfold yielded;rw[VU,qh];rw[qw]at hv;cases he:a.tmps[d]? with
    |none=>rfl
    |some u=>
     rw[he]at hv;simp only[qO]at hv;subst hv;rfl
   ·cases h
  ·cases h
theorem mU{F:Fence}{n:Nat}{jA:Array Oper}{Q:Exit→Act→World→Prop}{i:Nat}{o:Oper}{K:Act→World→Prop}(hi:jA[i]?=some o)
  (h:if Region.wanted o (yielded jA a.tmps)then o.wpIn F n P a w K Q else(∀f,o.about P w a.eval=some f→F.fn f)∧K (a.put o.dst undef) w):wpOpIn F n P jA Q i K a w:=by
 unfold wpOpIn;simp only[hi];exact h
theorem tX(hC:Qw P Γ)(hR:jW P base κ M σ a w){jA:Array Oper}{i:Nat}{o:Oper}(hi:jA.toList[i]?=some o)(hd:∀d,o.dst=some d→d<a.tmps.size)
  (h:stepG Γ jA.toList o σ=some σ') {F:Fence} (hF:Open F) {n:Nat} {K:Act→World→Prop} {Q:Exit→Act→World→Prop}
  (hK:∀κ' M' a' w',jW P base κ' M' σ' a' w'→Fr base o.dst.toList κ M σ a w κ' M' σ' a' w'→K a' w'):wpOpIn F n P jA Q i K a w:=by
 refine mU (o:=o) (by rwa [zh]at hi) ?_;unfold stepG at h;split at h
 ·rename_i hw;rw[UC hR hw,qH rfl];exact yek hC hR hd h hF hK
 ·rename_i hw;rw[UC hR hw,qT (by simp)];refine⟨fun f _=>hF.fn f,?_⟩;simp only[qb]at h;subst h;exact hK κ M _ w (CN hR hd (v :=.undef) rfl) bb
 ·cases h
theorem CL{i:Nat}{o:Oper}(hi:all[i]?=some o):∀d,o.dst=some d→d∈QE all:=fun d hd=>
 yd.2 ⟨o,qK hi,hd⟩
theorem LJ(hC:Qw P Γ){jA:Array Oper}{F:Fence}(hF:Open F){n:Nat}{Q:Exit→Act→World→Prop}{lg:QD}:
  ∀{l:List Nat} {κ:Nat→Option Nat} {M:Mem} {σ:St} {a:Act} {w:World},z9j Γ jA.toList lg l σ τ→jW P base κ M σ a w→(∀d,d∈QE jA.toList→d<a.tmps.size)→
  (∀κ' M' a' w',jW P base κ' M' τ a' w'→Fr base (QE jA.toList) κ M σ a w κ' M' τ a' w'→Q .normal a' w')→wpOpsIn F n P jA Q l a w
 |[],κ,M,σ,a,w,hc,hR,_,hQ=>by
  simp only[z9j]at hc;subst hc;simp only[wpOpsIn];exact hQ κ M a w hR Fr.refl
 |i::l,κ,M,σ,a,w,⟨o,σ1,h1,_,h3,h4⟩,hR,vQ,hQ=>by
  rw[xo];refine tX hC hR h1 (fun d hd=>vQ d (CL h1 d hd)) h3 hF fun κ1 M1 a1 w1 Yk Wv =>?_
  refine LJ hC hF h4 Yk (fun d hd=>by rw[Wv.size];exact vQ d hd) fun κ2 M2 a2 w2 wG wL =>?_
  refine hQ κ2 M2 a2 w2 wG (Wv.trans wL (fun s hs =>?_) fun s hs=>hs);exact CL h1 s (by simpa using hs)
theorem y3j{x y:Oper}{i j:Nat}{lg:QD}(hap:gn all lg i j x y=true)(hf:∀f,(i,f)∈lg→f=jG x σ):cz x:=by
 unfold gn at hap;simp only[qg,yh]at hap;rcases hap.2 with⟨h1,_⟩|h
 ·exact .inl h1
 ·have e1:YV lg i ≠ .other:=fun e=>by rw[e]at h;simp[J2]at h
  exact Uj (σ:=σ) (by rw[←hf _ (HO e1)];exact e1) (fun s=>by rw[←hf _ (HO e1)];intro e;rw[e]at h;cases hh:YV lg j<;>rw[hh]at h<;>simp[J2]at h) (by rw[←hf _ (HO e1)];intro e;rw[e]at h;cases hh:YV lg j<;>rw[hh]at h<;>simp[J2]at h)
theorem yaw{x y:Oper}{i j:Nat}{lg:QD}(hap:apart all lg i j x y=true){s:Nat}(hs:x.dst=some s):s∉reads all y:=by
 have h:CZ (x.dst.toList) (reads all y++y.dst.toList)=true:=by
  unfold apart gn nZ n6 at hap;simp only[qg,yh]at hap;rcases hap with(h|h)|h
  ·exact h.1.1
  ·exact h.1.1.2
  ·exact h.1.2
 have h:=ug.1 h;exact fun hm=>h s (by rw[hs];simp) (q8 _ hm)
theorem ydb{x y:Oper}{i j:Nat}{lg:QD}{σ1:St}(hap:apart all lg i j x y=true)(hf:∀f,(i,f)∈lg→f=jG x σ)(h:stepG Γ all x σ=some σ1)(Ct:PT y σ):PT y σ1:=by
 have hd:=fun s hs=>yaw hap (s:=s) hs
 unfold apart at hap;rw[yh,yh]at hap;have skip:∀σ1:St,(∃v,σ1=σ.set x.dst v)→PT y σ1:=by
  rintro _ ⟨v,rfl⟩ z hz t ht;have e:(σ.set x.dst v).opd z=σ.opd z:=An fun s hs=>Ci σ x.dst v s fun e=>hd s e (mem_reads (by rw[←hs];exact hz))
  rw[e]at ht;rw[EN];exact Ct z hz t ht
 rcases hap with(hap|hap)|hap
 rotate_left 2
 ·unfold n6 at hap;simp only[qg]at hap;obtain⟨⟨⟨⟨_,_⟩,Dp⟩,_⟩,_⟩:=hap;have H6:D4 x (jG x σ)=true:=by
   cases hlj:YV lg i with
   |other=>rw[hlj]at Dp;exact I3 Dp
   |_=>
    have e1:YV lg i ≠ .other:=fun e=>by rw[hlj]at e;cases e
    have e2:=hf _ (HO e1);rw[←e2];exact Dp
  unfold stepG at h;split at h
  ·obtain⟨v,rfl,_⟩:=T2 (k:=none) H6 h;exact skip _ ⟨v,rfl⟩
  ·simp only[qb]at h;exact skip _ ⟨_,h.symm⟩
  ·cases h
 ·obtain⟨u,fu,iX,hu,_⟩:=T3 (y3j hap hf) h;intro z hz t ht;have e:σ1.opd z=σ.opd z:=An fun s hs=>by
   rw[hu];exact AB fun v hv=>hd s (fu.e s v hv) (mem_reads (by rw[←hs];exact hz))
  rw[e]at ht;obtain⟨B,hB⟩:=Ct z hz t ht;rw[hu];rcases Em σ.box u.b t with⟨v,hv,e⟩|⟨_,e⟩
  ·obtain⟨⟨B',rfl⟩,_⟩:=fu.b t v hv;exact⟨B',e⟩
  ·exact⟨B,e.trans hB⟩
 ·unfold nZ at hap;simp only[qg]at hap;obtain⟨⟨⟨⟨⟨jx,_⟩,_⟩,_⟩,_⟩,_⟩:=hap;unfold stepG at h;split at h;rotate_left
  ·simp only[qb]at h;exact skip _ ⟨_,h.symm⟩
  ·cases h
  obtain⟨d,v,s,hxd,rfl,_⟩:=Tw jx h;intro z hz t ht;have e:(Ya d v (σ.lose s)).opd z=(σ.opd z).map (AVal.loseO s):=by
   rw[P1 fun e=>hd d hxd (mem_reads (by rw[←e];exact hz)),bC]
  rw[e]at ht;have NL:(∃p,σ.opd z=some (.bptr t p))∨σ.opd z=some (.rowp t)∨σ.opd z=some (.mapp t):=by
   cases Bw:σ.opd z with
   |none=>rw[Bw]at ht;rcases ht with⟨p,ht⟩|ht|ht<;>cases ht
   |some w=>
    rw[Bw]at ht;cases w with
    |data u q o=>
     obtain⟨o',e⟩:=ig s (t:=u) (x:=q) (o:=o);simp only[zK,e]at ht;rcases ht with⟨p,ht⟩|ht|ht<;>cases ht
    |_=>cases s<;>exact ht
  obtain⟨B,hB⟩:=Ct z hz t NL;cases hb:(Ya d v (σ.lose s)).box t with
  |some B'=>exact⟨B',rfl⟩
  |none=>
   have:σ.box t=none:=(sY s t).1 hb;rw[this]at hB;cases hB
theorem PF{lg:QD}{i:Nat}{oi:Oper}(hi:all[i]?=some oi){L2:List Nat}:∀{L1:List Nat} {σ:St},(∀k∈L1,∀ok,all[k]?=some ok→apart all lg k i ok oi=true)→PT oi σ→
  z9j Γ all lg (L1++i::L2) σ τ→z9j Γ all lg (i::(L1++L2)) σ τ
 |[],_,_,_,h=>h
 |k::L1,σ,hap,Ct,⟨ok,σ1,h1,h2,h3,h4⟩=>by
  have rM:=hap k (by simp) ok h1;have NW:PT oi σ1:=ydb rM h2 h3 Ct;obtain⟨oi',σ2,g1,g2,g3,g4⟩:=PF hi (fun k hk=>hap k (qo _ hk)) NW h4;rw[hi]at g1;cases g1;obtain⟨σ1',s1,s2,s3,s4⟩:=swap rM h3 g3 h2 g2 Ct;exact⟨oi,σ1',hi,fun f hf=>(g2 f hf).trans s3.symm,s1,ok,σ2,h1,fun f hf=>(h2 f hf).trans s4.symm,s2,g4⟩
theorem AV(hR:jW P base κ M σ a w)(o:Oper):PT o σ:=fun x _ t ht=>by
 have key:∀s,x = .tmp s→∃B,σ.box t=some B:=fun s hs=>by
  subst hs;rcases ht with⟨p,ht⟩|ht|ht
  ·obtain⟨B,_,_,hB,_⟩:=hR.env s _ ht;exact⟨B,hB⟩
  ·obtain⟨tid,e,l,own,g,cap,hB,_⟩:=hR.env s _ ht;exact⟨_,hB⟩
  ·obtain⟨tid,k,v,l,own,g,hB,_⟩:=hR.env s _ ht;exact⟨_,hB⟩
 cases x with
 |tmp s=>exact key s rfl
 |const v=>
  exfalso;unfold St.opd at ht;split at ht<;>first|(rcases ht with⟨_,ht⟩|ht|ht<;>cases ht)|cases ‹Operand.const v = .tmp _›
 |global g=>rcases ht with⟨_,ht⟩|ht|ht<;>cases ht
 |func g=>rcases ht with⟨_,ht⟩|ht|ht<;>cases ht
theorem CY(e:Edge):Region.binds .any e=WY e:=by
 unfold Region.binds WY;cases e.ground<;>rfl
theorem tH:∀{l:List Oper} {i p:Nat} {o:Oper},Ad i l=true→l[p]?=some o→∀e∈o.after,WY e=true→e.on<i+p
 |[],_,_,_,_,h,_,_,_=>by simp at h
 | x::l,i,p,o,h,hp,e,he,hb=>by
  simp only[Ad,qg,qW,yh,zO,xw]at h;cases p with
  |zero=>
   simp only[zr,qb]at hp;subst hp;rcases h.1 e (by simpa using he)with h|h
   ·rw[hb]at h;cases h
   ·exact h
  |succ p=>
   simp only[z8]at hp;have:=tH h.2 hp e he hb;omega
theorem zqi{lg:QD}{i:Nat}{x:Oper}:∀{r:List Oper} {ms:List Nat} {j q m:Nat} {y:Oper},tn all lg i x j ms r=true→ms[q]?=some m→r[q]?=some y→
  m.testBit i=true∨apart all lg i (j+q) x y=true
 |[],_,_,_,_,_,_,_,h=>by simp at h
 |_::_,[],_,_,_,_,_,h,_=>by simp at h
 | z::r,m0::ms,j,q,m,y,h,hm,hy=>by
  simp only[tn,qg,yh]at h;cases q with
  |zero=>
   simp only[zr,qb]at hm hy;subst hm hy;exact h.1
  |succ q=>
   simp only[z8]at hm hy;have:=zqi h.2 hm hy;rwa [show j+1+q=j+(q+1) by omega]at this
theorem Rr{lg:QD}:∀{r:List Oper} {ms:List Nat} {i p q m:Nat} {x y:Oper},im all lg i ms r=true→p<q→ms[q]?=some m→r[p]?=some x→r[q]?=some y→
  m.testBit (i+p)=true∨apart all lg (i+p) (i+q) x y=true
 |[],_,_,_,_,_,_,_,_,_,_,h,_=>by simp at h
 |_::_,[],_,_,_,_,_,_,_,_,h,_,_=>by simp at h
 | z::r,m0::ms,i,p,q,m,x,y,h,hpq,hm,hx,hy=>by
  simp only[im,qg]at h;obtain⟨q,rfl⟩:∃q',q=q'+1:=⟨q-1,by omega⟩
  simp only[z8]at hm hy;cases p with
  |zero=>
   simp only[zr,qb]at hx;subst hx;have:=zqi h.1 hm hy;rwa [show i+1+q=i+(q+1) by omega]at this
  |succ p=>
   simp only[z8]at hx;have:=Rr h.2 (by omega) hm hx hy;rwa [show i+1+p=i+(p+1) by omega,show i+1+q=i+(q+1) by omega]at this
def Gx(all:List Oper)(S:Nat→Prop):Prop:=∀j o,all[j]?=some o→S j→∀e∈o.after,WY e=true→S e.on
def yec(all:List Oper)(j m:Nat):Prop:=∀k,m.testBit k=true→∀S,Gx all S→(∀o,all[j]?=some o→∀e∈o.after,WY e=true→S e.on)→S k
theorem y52(f:Edge→Nat):∀(l:List Edge) (s k:Nat),(l.foldl (fun s e=>if WY e then s ||| 2 ^ e.on ||| f e else s) s).testBit k=true→
  s.testBit k=true∨∃e∈l,WY e=true∧(k=e.on∨(f e).testBit k=true)
 |[],_,_,h =>.inl h
 | e::l,s,k,h=>by
  simp only[List.foldl_cons]at h;rcases y52 f l _ k h with h|⟨e',FU,r⟩
  ·by_cases hb:WY e=true
   ·rw[qH hb]at h;simp only[Nat.testBit_or,yh,Nat.testBit_two_pow,qI]at h;rcases h with(h|h)|h
    ·exact .inl h
    ·exact .inr ⟨e,by simp,hb,.inl h.symm⟩
    ·exact .inr ⟨e,by simp,hb,.inr h⟩
   ·rw[qT hb]at h;exact .inl h
  ·exact .inr ⟨e',qo _ FU,r⟩
theorem TT:∀{l:List Oper} {acc:List Nat},Seg all acc.length l→(∀j m,acc[j]?=some m→yec all j m)→
  (∀j m,(WF l acc)[j]?=some m→yec all j m)∧(WF l acc).length=acc.length+l.length
 |[],acc,_,h=>⟨h,rfl⟩
 | o :: l,acc,hs,h=>by
  simp only[WF];have jH:∀x:Nat,(acc++[x]).length=acc.length+1:=fun x=>by simp
  obtain⟨h1,h2⟩:=TT (l:=l) (acc:=acc++[o.after.toList.foldl (fun s e=>if WY e then s ||| 2 ^ e.on ||| acc.getD e.on 0 else s) 0]) (by rw[jH];exact hs.tail) (fun j m hj=>by
   rcases z7 j acc.length with hlt|hge
   ·rw[zf hlt]at hj;exact h j m hj
   ·rw [zm hge]at hj;cases hj0:j-acc.length with
    |succ k=>rw[hj0]at hj;simp at hj
    |zero=>
     rw[hj0]at hj;simp only[zr,qb]at hj;subst hj;have hje:j=acc.length:=by omega
     subst hje;intro k hk S hS vc;have ZT:=hs.head;rcases y52 (fun e=>acc.getD e.on 0) o.after.toList 0 k hk with h0|⟨e,he,hb,hke⟩
     ·simp at h0
     ·have hSe:=vc o ZT e (by simpa using he) hb;rcases hke with rfl|hke
      ·exact hSe
      ·cases ha:acc[e.on]? with
       |none=>simp[ha]at hke
       |some m'=>
        have:acc.getD e.on 0=m':=by simp[ha]
        rw[this]at hke;exact h e.on m' ha k hke S hS fun o' wQ e' FU X5=>hS e.on o' wQ hSe e' FU X5)
  exact⟨h1,by rw[h2,jH,qk];omega⟩
theorem P4:Seg all 0 all:=fun j o h=>by simpa using h
theorem Ub(hC:Qw P Γ){jA:Array Oper}{F:Fence}(hF:Open F){n:Nat}{Q:Exit→Act→World→Prop}{lg:QD}(jP:GI jA.toList lg=true):
  ∀{vC:Nat} {jD:Array Bool} {l:List Nat} {κ:Nat→Option Nat} {M:Mem} {σ:St} {a:Act} {w:World},jD.size=jA.size→l.length≤vC→l.Pairwise (· < ·)→
  (∀k,k∈l↔k<jA.size∧jD.getD k true=false)→Gx jA.toList (fun k=>jD.getD k false=true)→z9j Γ jA.toList lg l σ τ→jW P base κ M σ a w→(∀d,d∈QE jA.toList→d<a.tmps.size)→
  (∀κ' M' a' w',jW P base κ' M' τ a' w'→Fr base (QE jA.toList) κ M σ a w κ' M' τ a' w'→Q .normal a' w')→wpAnyIn F n P .any jA Q vC jD a w:=by
 have VS:Ad 0 jA.toList=true:=by unfold GI at jP;simp only[qg]at jP;exact jP.1
 have ee:im jA.toList lg 0 (WF jA.toList []) jA.toList=true:=by unfold GI at jP;simp only[qg]at jP;exact jP.2
 obtain⟨Fc,Fb⟩:=TT (all:=jA.toList) (l:=jA.toList) (acc:=[]) P4 (fun j m h=>by simp at h);have done:∀{jD:Array Bool} {l:List Nat},jD.size=jA.size→l.Pairwise (· < ·)→(∀k,k∈l↔k<jA.size∧jD.getD k true=false)→Region.ready .any jA jD=[]→l=[]:=by
  intro jD l vQ Vg vu hr;cases l with
  |nil=>rfl
  |cons i l=>
   exfalso;obtain⟨Gf,Fi⟩:=(vu i).1 (by simp);have:i∈Region.ready .any jA jD:=ji.2 ⟨Fi,jA[i],qZ Gf,fun e he hb=>by
    rw[CY]at hb;have hlt:=tH VS (show jA.toList[i]?=some jA[i] by rw[zh];exact qZ Gf) e he hb;cases hg:jD.getD e.on true with
    |true=>
     have hs:e.on<jD.size:=by omega
     simp only[qw,qZ hs,qO]at hg⊢;exact hg
    |false=>
     have hm:=(vu e.on).2 ⟨by omega,hg⟩;rcases qF.1 hm with h|h
     ·omega
     ·have:=yY Vg h;omega⟩
   rw[hr]at this;simp at this
 intro vC;induction vC with
 |zero=>
  intro jD l κ M σ a w vQ jH Vg vu ZR Ku hR Dk hQ;have hl:l=[]:=xf.1 (by omega);subst hl;simp only[z9j]at Ku;subst Ku;refine⟨?_,hQ κ M a w hR Fr.refl⟩;cases hr:Region.ready .any jA jD with
  |nil=>rfl
  |cons i r=>
   have hi:=ji.1 (show i∈Region.ready .any jA jD by rw[hr];simp);obtain⟨h1,o,ho,_⟩:=hi;have:=(vu i).2 ⟨(qd.1 ho).1,h1⟩;simp at this
 |succ vC ih=>
  intro jD l κ M σ a w vQ jH Vg vu ZR Ku hR Dk hQ;refine⟨fun hr =>?_,fun i hi =>?_⟩
  ·have:=done vQ Vg vu hr;subst this;simp only[z9j]at Ku;subst Ku;exact hQ κ M a w hR Fr.refl
  ·obtain⟨Gf,oi,ag,vc⟩:=ji.1 hi;have ZE:jA.toList[i]?=some oi:=by rw[zh];exact ag
   have Wp:=(qd.1 ag).1;have pT:=(vu i).2 ⟨Wp,Gf⟩;obtain⟨L1,L2,hL⟩:=kV pT;subst hL;have Jv:=Vg;rw[xH]at Jv;obtain⟨pc,ab,Cu⟩:=Jv;have hb:=PF (Γ:=Γ) (lg:=lg) ZE (L1:=L1) (L2:=L2) (σ:=σ) (τ:=τ) (fun k hk ok eg=>by
    have Wn:k<i:=Cu k hk i (by simp);have Eu:=((vu k).1 (by simp[hk])).2;have hm:(WF jA.toList [])[i]?=some ((WF jA.toList [])[i]'(by rw[Fb];simpa using Wp)):=qr _;have:=Rr ee Wn hm eg ZE;rw[qY,qY]at this;rcases this with h|h
    ·exfalso;have:=Fc i _ hm k h _ ZR (fun o' wQ e he Kw=>by
      rw[ZE]at wQ;cases wQ;exact vc e he (by rw[CY];exact Kw))
     have hs:k<jD.size:=by omega
     simp only[qw,qZ hs,qO]at Eu this;rw[Eu]at this;cases this
    ·exact h) (AV hR oi) Ku
   obtain⟨o',σ1,g1,_,g3,g4⟩:=hb;rw[ZE]at g1;cases g1;refine tX hC hR ZE (fun d hd=>Dk d (CL ZE d hd)) g3 hF fun κ1 M1 a1 w1 Yk Wv =>?_
   have JA:i∉L1:=fun h=>xi _ (Cu i h i (by simp))
   have Jz:i∉L2:=fun h=>xi _ (yY ab h)
   refine ih (l:=L1++L2) (by simp[vQ]) (by simp only[qe,qk]at jH⊢;omega) ?_ (fun k =>?_) ?_ g4 Yk (fun d hd=>by rw[Wv.size];exact Dk d hd) fun κ2 M2 a2 w2 wG wL =>?_
   ·rw[xH];exact⟨pc,(List.pairwise_cons.1 ab).2,fun x hx y hy=>Cu x hx y (qo _ hy)⟩
   ·by_cases Wn:k=i
    ·subst Wn;have:(jD.setIfInBounds k true).getD k true=true:=by
      simp[qw,yQ (show k<jD.size by omega)]
     rw[this];simp[JA,Jz]
    ·rw[yN true (fun e=>Wn e.symm)];rw[←vu k];simp[Wn]
   ·intro j o ho hj e he Kw;by_cases DA:j=i
    ·subst DA;rw[ZE]at ho;cases ho;exact getD_set_true (vc e he (by rw[CY];exact Kw))
    ·rw[yN false (fun e=>DA e.symm)]at hj;exact getD_set_true (ZR j o ho hj e he Kw)
   ·refine hQ κ2 M2 a2 w2 wG (Wv.trans wL (fun s hs =>?_) fun s hs=>hs);exact CL ZE s (by simpa using hs)
theorem zyf(hC:Qw P Γ){jA:Array Oper}{F:Fence}(hF:Open F){n:Nat}{Q:Exit→Act→World→Prop}{lg:QD}(jP:GI jA.toList lg=true){c:Nat}(hc:c<jA.size)
  (VV:((List.range c).all fun k=>(List.range' c (jA.size-c)).all fun i=>((WF jA.toList []).getD i 0).testBit k)=true):
  ∀{vC:Nat} {jD:Array Bool} {l:List Nat} {κ:Nat→Option Nat} {M:Mem} {σ:St} {a:Act} {w:World},jD.size=jA.size→l.length+(jA.size-c)≤vC→l.Pairwise (· < ·)→
  (∀k,k∈l↔k<c∧jD.getD k true=false)→(∀k,c≤k→k<jA.size→jD.getD k true=false)→Gx jA.toList (fun k=>jD.getD k false=true)→z9j Γ jA.toList lg l σ τ→jW P base κ M σ a w→(∀d,d∈QE jA.toList→d<a.tmps.size)→
  (∀Qg Z3 κ' M' a' w',jA.size-c≤Qg→Z3.size=jA.size→(∀k,k<jA.size→(Z3.getD k true=false↔c≤k))→jW P base κ' M' τ a' w'→Fr base (QE jA.toList) κ M σ a w κ' M' τ a' w'→wpAnyIn F n P .any jA Q Qg Z3 a' w')→wpAnyIn F n P .any jA Q vC jD a w:=by
 have VS:Ad 0 jA.toList=true:=by unfold GI at jP;simp only[qg]at jP;exact jP.1
 have ee:im jA.toList lg 0 (WF jA.toList []) jA.toList=true:=by unfold GI at jP;simp only[qg]at jP;exact jP.2
 obtain⟨Fc,Fb⟩:=TT (all:=jA.toList) (l:=jA.toList) (acc:=[]) P4 (fun j m h=>by simp at h);have rr:∀k i,k<c→c≤i→i<jA.size→((WF jA.toList []).getD i 0).testBit k=true:=fun k i h1 h2 h3=>by
  have:=qW.1 VV k (xp.2 h1);exact qW.1 this i (xJ.2 ⟨h2,by omega⟩)
 have done:∀{jD:Array Bool} {l:List Nat},jD.size=jA.size→l.Pairwise (· < ·)→(∀k,k∈l↔k<c∧jD.getD k true=false)→Region.ready .any jA jD=[]→l=[]:=by
  intro jD l vQ Vg vu hr;cases l with
  |nil=>rfl
  |cons i l=>
   exfalso;obtain⟨Gf,Fi⟩:=(vu i).1 (by simp);have Qh:i<jA.size:=by omega
   have:i∈Region.ready .any jA jD:=ji.2 ⟨Fi,jA[i],qZ Qh,fun e he hb=>by
    rw[CY]at hb;have hlt:=tH VS (show jA.toList[i]?=some jA[i] by rw[zh];exact qZ Qh) e he hb;cases hg:jD.getD e.on true with
    |true=>
     have hs:e.on<jD.size:=by omega
     simp only[qw,qZ hs,qO]at hg⊢;exact hg
    |false=>
     have hm:=(vu e.on).2 ⟨by omega,hg⟩;rcases qF.1 hm with h|h
     ·omega
     ·have:=yY Vg h;omega⟩
   rw[hr]at this;simp at this
 intro vC;induction vC with
 |zero=>
  intro jD l κ M σ a w vQ jH Vg vu Zw ZR Ku hR Dk hQ;omega
 |succ vC ih=>
  intro jD l κ M σ a w vQ jH Vg vu Zw ZR Ku hR Dk hQ;by_cases Cw:l=[]
  ·subst Cw;simp only[z9j]at Ku;subst Ku;refine hQ _ jD κ M a w (by simpa using jH) vQ (fun k hk =>?_) hR Fr.refl;constructor
   ·intro h;rcases z7 k c with hlt|hge
    ·have:=(vu k).2 ⟨hlt,h⟩;simp at this
    ·exact hge
   ·exact fun h=>Zw k h hk
  refine⟨fun hr=>absurd (done vQ Vg vu hr) Cw,fun i hi =>?_⟩
  ·obtain⟨Gf,oi,ag,vc⟩:=ji.1 hi;have ZE:jA.toList[i]?=some oi:=by rw[zh];exact ag
   have Wp:=(qd.1 ag).1;have Oh:(WF jA.toList []).length=jA.size:=by rw[Fb];simp
   have hic:i<c:=by
    rcases z7 i c with h|h
    ·exact h
    ·exfalso;obtain⟨k,l',rfl⟩:=List.exists_cons_of_ne_nil Cw;obtain⟨XF,VR⟩:=(vu k).1 (by simp);have hb:=rr k i XF h Wp;have hm:(WF jA.toList [])[i]?=some ((WF jA.toList [])[i]'(by rw[Oh];exact Wp)):=qr _;rw[qC,hm,qO]at hb;have:=Fc i _ hm k hb _ ZR (fun o' wQ e he Kw=>by
      rw[ZE]at wQ;cases wQ;exact vc e he (by rw[CY];exact Kw))
     have hs:k<jD.size:=by omega
     simp only[qw,qZ hs,qO]at VR this;rw[VR]at this;cases this
   have pT:=(vu i).2 ⟨hic,Gf⟩;obtain⟨L1,L2,hL⟩:=kV pT;subst hL;have Jv:=Vg;rw[xH]at Jv;obtain⟨pc,ab,Cu⟩:=Jv;have hb:=PF (Γ:=Γ) (lg:=lg) ZE (L1:=L1) (L2:=L2) (σ:=σ) (τ:=τ) (fun k hk ok eg=>by
    have Wn:k<i:=Cu k hk i (by simp);have Eu:=((vu k).1 (by simp[hk])).2;have hm:(WF jA.toList [])[i]?=some ((WF jA.toList [])[i]'(by rw[Fb];simpa using Wp)):=qr _;have:=Rr ee Wn hm eg ZE;rw[qY,qY]at this;rcases this with h|h
    ·exfalso;have:=Fc i _ hm k h _ ZR (fun o' wQ e he Kw=>by
      rw[ZE]at wQ;cases wQ;exact vc e he (by rw[CY];exact Kw))
     have hs:k<jD.size:=by omega
     simp only[qw,qZ hs,qO]at Eu this;rw[Eu]at this;cases this
    ·exact h) (AV hR oi) Ku
   obtain⟨o',σ1,g1,_,g3,g4⟩:=hb;rw[ZE]at g1;cases g1;refine tX hC hR ZE (fun d hd=>Dk d (CL ZE d hd)) g3 hF fun κ1 M1 a1 w1 Yk Wv =>?_
   have JA:i∉L1:=fun h=>xi _ (Cu i h i (by simp))
   have Jz:i∉L2:=fun h=>xi _ (yY ab h)
   refine ih (l:=L1++L2) (by simp[vQ]) (by simp only[qe,qk]at jH⊢;omega) ?_ (fun k =>?_) (fun k XF VR =>?_) ?_ g4 Yk (fun d hd=>by rw[Wv.size];exact Dk d hd) fun Qg Z3 κ2 M2 a2 w2 QT VO Gc wG wL =>?_
   ·rw[xH];exact⟨pc,(List.pairwise_cons.1 ab).2,fun x hx y hy=>Cu x hx y (qo _ hy)⟩
   ·by_cases Wn:k=i
    ·subst Wn;have:(jD.setIfInBounds k true).getD k true=true:=by
      simp[qw,yQ (show k<jD.size by omega)]
     rw[this];simp[JA,Jz]
    ·rw[yN true (fun e=>Wn e.symm)];rw[←vu k];simp[Wn]
   ·rw[yN true (fun e=>by omega)];exact Zw k XF VR
   ·intro j o ho hj e he Kw;by_cases DA:j=i
    ·subst DA;rw[ZE]at ho;cases ho;exact getD_set_true (vc e he (by rw[CY];exact Kw))
    ·rw[yN false (fun e=>DA e.symm)]at hj;exact getD_set_true (ZR j o ho hj e he Kw)
   ·refine hQ Qg Z3 κ2 M2 a2 w2 QT VO Gc wG (Wv.trans wL (fun s hs =>?_) fun s hs=>hs);exact CL ZE s (by simpa using hs)
theorem zz4(Q0:Γ.gown=false)(hm:P.follows .mixedOrders=true)(hC:Qw P Γ){id:Nat}{jA:Array Oper}{d:Bool}{A:Type}{k:St→QD→Option A}{r:A}
  (h:YD Γ jA.toList (jA.size+1) none 0 jA.toList σ [] k=some r) (hd:∀τ lg,k τ lg=some r→d=true→GI jA.toList lg=true)
  (jP:s8 a.tmps.size jA.toList=true) (hR:jW P base κ M σ a w) {F:Fence} (hF:Open F) {n:Nat} {Q:Exit→Act→World→Prop}
  (hQ:∀κ' M' τ lg a' w',jW P base κ' M' τ a' w'→Fr base (QE jA.toList) κ M σ a w κ' M' τ a' w'→k τ lg=some r→Q .normal a' w'):(Code.region id jA d).wpIn F n P Q a w:=by
 unfold s8 at jP;simp only[qg,qW,xw]at jP;obtain⟨h1,h2⟩:=jP;obtain⟨σd,τ,lg,hc,Cq,hk,_,_⟩:=tQ Q0 (tP h1) _ none 0 _ σ [] k r h P4 (fun e he=>by simp at he) σ (Wk.refl hR.dis) True.intro (fun h=>by cases h);have H8:List.range' 0 jA.toList.length=List.range jA.size:=by rw[zY];simp
 rw[H8]at hc;cases d with
 |false=>
  refine xO (LJ hC hF hc hR h2 fun κ' M' a' w' j4 j6 =>?_);exact hQ κ' M' τ lg a' w' (ydq j4 Cq) (aM j6 Cq) hk
 |true=>
  refine wpIn_region_any hm (Ub hC hF (hd τ lg hk rfl) (l:=List.range jA.size) (by simp) (by simp) kl (fun k =>?_) (fun j o ho hj =>?_) hc (TZ hR) h2 fun κ' M' a' w' j4 j6 =>?_)
  ·rw[xp];constructor
   ·intro hk;exact⟨hk,by simp[qw,hk]⟩
   ·exact fun h=>h.1
  ·exfalso;rcases z7 j jA.size with hlt|hge
   ·simp[qw,hlt]at hj
   ·simp[qw,hge]at hj
  ·exact hQ κ' M' τ lg a' w' (ydq j4 Cq) (aM (PQ.trans j6 (fun s hs=>hs) fun s hs=>hs) Cq) hk
end Go.Lift
namespace Go.Lift
open Go Go.RowKit
variable [wB] [Mf]
variable {P:Program} {Γ:QW} {base:Nat} {κ κ':Nat→Option Nat} {M M':Mem} {σ τ σ' τ':St} {a a':Act} {w w':World}
theorem IV{t:Ty}{y:t.den}{g off:Nat}{cells:List Value}(hr:jB P t M y cells)(hm:M.has g off cells):jz P (.ptr t) M y (.pointer (some ⟨g,off,none⟩)):=by
 unfold jz Qd;exact⟨g,off,cells,rfl,hr,hm⟩
theorem Ib(hR:jW P base κ M σ a w){b:Nat}(h:σ.freeze b=some τ):∃M',jW P base κ M' τ a w∧Fr base [] κ M σ a w κ M' τ a w:=by
 unfold St.freeze at h;split at h
 ·rename_i B hB;cases BH:B.isMap with
  |true=>rw[BH]at h;cases h
  |false=>
  rw[BH]at h;simp only[qu,qb]at h;subst h;obtain⟨g,jT,E,hk,hc,Zf,_,eZ⟩:=(hR.bx b B hB).cells (ya9 BH);let M':Mem:=fun i o=>if i=g then jT.toList[o]? else M i o
  have ju:∀j,j≠g→M' j=M j:=fun j hj=>by funext o;exact qT hj
  have X6:∀o,M' g o=jT.toList[o]?:=fun o=>qH rfl
  have jL:Mem.le M M':=by
   intro i o v hv;by_cases hi:i=g
   ·subst hi;rw[eZ]at hv;cases hv
   ·rw[ju i hi];exact hv
  have hg:Good M' w:=by
   refine⟨wB.keep jL (zb7.refl w) hR.good.1,?_⟩;intro i o v hv;by_cases hi:i=g
   ·subst hi;rw[X6]at hv;rw[GN hc];simpa using hv
   ·rw[ju i hi]at hv;exact hR.good.2 i o v hv
  have Oy:∀off n,off+n≤jT.toList.length→M'.has g off ((jT.toList.drop off).take n):=fun off n _ j u hj=>by
   rw[X6];rw[zb]at hj;split at hj
   ·rw[zd]at hj;exact hj
   ·cases hj
  have JM:=UR jL Zf;have hh:∀i,i≠b→Holds κ M w κ M' w i:=fun i hi=>⟨rfl,fun k wb=>by
   have:k≠g:=fun e=>hi (hR.inj i b g (e▸wb) hk)
   exact⟨rfl,fun o=>by rw[ju k this]⟩⟩
  have A7:=hR.dis b B hB;have Yd:∀i,σ.tok i=true→σ.tok i=true∧Holds κ M w κ M' w i:=fun i ht=>⟨ht,hh i fun e=>by rw[e,A7]at ht;cases ht⟩
  have turn:∀v u,¬v.leans b→RelA P κ M w σ.box σ.tok v u→RelA P κ M' w (vH σ.box b none) σ.tok v u:=fun v u hl hv=>
   hv.turn jL (fun _ _=>rfl) (fun i _ ht=>Yd i ht) fun i Bi hi Z6=>⟨Bi,by rw[vN _ _ _ _ (fun e=>hl (by rw[←e];exact hi))];exact Z6,Alike.refl Bi⟩
  refine⟨M',⟨fun s v hs =>?_,fun i Bi Z6 =>?_,hg,hR.inj,hR.kap,fun i Bi Z6 =>?_,hR.low⟩,⟨qN _ _,jL,fun i hi=>ju i fun e =>?_,rfl,.of_eq rfl,fun _ _=>rfl,fun i _ hd =>?_,fun i _ Bi Z6 =>?_,fun _ _ h _=>h,.of (fun _ _ _=>rfl) (fun i _ h =>.inl ⟨i,h⟩) fun j _ hn=>ju j fun e=>hn b (by rw[e];exact hk)⟩⟩
  ·simp only at hs;split at hs
   ·rename_i v0 H5;have hA:=hR.env s v0 H5;generalize a.tmps.getD s undef=u at hA;cases v0 with
    |data t x o=>
     simp only[Ky,qb]at hs;subst hs;refine⟨ZZ jL hA.1,hA.2.turn fun p s hm=>⟨hm,fun k _ ht=>Yd k ht⟩⟩
    |bptr c p=>
     simp only[Ky]at hs;split at hs
     ·rename_i Ez;subst Ez;obtain⟨B2,g2,off,h1,h2,h3,h4⟩:=hA;rw[hB]at h1;cases h1;rw[hk]at h2;cases h2;split at hs
      ·rename_i t ht;split at hs
       ·rename_i y hy;simp only[qb]at hs;subst hs;obtain⟨r1,r2⟩:=Ut JM h3 hy;subst h4;exact⟨IV r1 (Oy _ _ r2),WJ⟩
       ·cases hs
      ·cases hs
     ·rename_i Ez;simp only[qb]at hs;subst hs;exact turn _ _ (fun e=>Ez e.symm) hA
    |rowp c=>
     simp only[Ky]at hs;split at hs
     ·rename_i Ez;subst Ez;obtain⟨tid,e,l,own,g2,cap,h1,h2,h0,h3⟩:=hA;rw[hB]at h1;cases h1;rw[hk]at h2;cases h2;simp only[qb]at hs;subst hs h3;refine⟨ui h0 (cells:=jT.toList.take (l.length*e.size)) (fun j u hj =>?_) (zx2 JM),WJ⟩;rw[qY,X6];rw[zb]at hj;split at hj
      ·exact hj
      ·cases hj
     ·rename_i Ez;simp only[qb]at hs;subst hs;exact turn _ _ (fun e=>Ez e.symm) hA
    |mapp c=>
     simp only[Ky,qb]at hs;subst hs;refine turn _ _ (fun e =>?_) hA;obtain⟨tid,kt,vt,l,own,g2,h1,_⟩:=hA;rw[show c=b from e.symm,hB]at h1;cases h1;cases BH
    |iter c e F=>
     simp only[Ky]at hs;split at hs
     ·cases hs
     ·rename_i Ez;simp only[qb]at hs;subst hs;exact turn _ _ (fun e=>Ez e.symm) hA
    |tup ts x=>
     simp only[Ky,qb]at hs;subst hs;exact turn _ _ (fun e=>e) hA
    |undef=>
     simp only[Ky,qb]at hs;subst hs;exact hA
    |raw _=>
     simp only[Ky,qb]at hs;subst hs;exact hA
    |clo f caps=>
     simp only[Ky,qb]at hs;subst hs;obtain⟨vs,h1,h2⟩:=hA;refine⟨vs,h1,?_⟩;generalize vs.toList=us at h2;clear h1 H5;induction caps generalizing us with
     |nil=>exact h2
     |cons c r ih=>
      obtain⟨v,rest,e1,e2,e3⟩:=h2;refine⟨v,rest,e1,?_,ih rest e3⟩;cases c with
      |inr d=>exact ZZ (t :=.ptr d.1) jL e2
      |inl i=>
       obtain⟨B2,g2,q1,q2,q3,q4⟩:=e2;simp only;split
       ·rename_i XG;subst XG;rw[hB]at q1;cases q1;rw[hk]at q3;cases q3;subst q4;rw[q2]at JM;have O2:jB P B.t M' B.x jT.toList:=by
         revert JM
         generalize B.x=x;generalize B.t=t at x;intro JM;cases t<;>exact JM
        exact IV O2 fun j u hj=>by rw[qY,X6];exact hj
       ·rename_i XG;exact⟨B2,g2,by rw[vN _ _ _ _ XG];exact q1,q2,q3,q4⟩
   ·cases hs
  ·by_cases XG:i=b
   ·subst XG;simp only[jy]at Z6;cases Z6
   ·simp only[vN _ _ _ _ XG]at Z6;exact(hR.bx i Bi Z6).turn jL (hh i XG) fun _ k _ ht=>Yd k ht
  ·by_cases XG:i=b
   ·subst XG;simp only[jy]at Z6;cases Z6
   ·simp only[vN _ _ _ _ XG]at Z6;exact hR.dis i Bi Z6
  ·have:=(hR.kap b g hk).1;omega
  ·by_cases XG:i=b
   ·subst XG;simp only[jy]at hd;cases hd
   ·simp only[vN _ _ _ _ XG]at hd;exact⟨hd,hh i XG⟩
  ·by_cases XG:i=b
   ·subst XG;simp only[jy]at Z6;cases Z6
   ·simp only[vN _ _ _ _ XG]at Z6;exact⟨rfl,Bi,Z6,Alike.refl Bi⟩
 ·cases h
theorem y3w:∀{n:Ann} {M:Mem} {σ:St},jW P base κ M σ a w→n.thaw σ=some τ→∃M',jW P base κ M' τ a w∧Fr base [] κ M σ a w κ M' τ a w
 | .frz b n,M,σ,hR,h=>by
  simp only[Ann.thaw]at h;split at h
  ·rename_i σ1 h1;obtain⟨M1,Yk,Wv⟩:=Ib hR h1;obtain⟨M2,wG,wL⟩:=y3w Yk h;exact⟨M2,wG,Wv.trans wL (fun _ h=>h) (fun _ h=>h)⟩
  ·cases h
 |.nil,M,σ,hR,h |.seq ..,M,σ,hR,h |.cond ..,M,σ,hR,h |.join ..,M,σ,hR,h |.joinD ..,M,σ,hR,h |.blk ..,M,σ,hR,h |.loopB ..,M,σ,hR,h |.loopBD ..,M,σ,hR,h |.loopD ..,M,σ,hR,h=>by
  simp only[Ann.thaw,qb]at h;subst h;exact⟨M,hR,Fr.refl⟩
def EJ:(l:List It)→vx (l.map (·.t))→List ((i:It)×i.t.den)
 |[],_=>[]
 |[i],x=>[⟨i,x⟩]
 |i::j::r,x=>⟨i,x.1⟩::EJ (j::r) x.2
theorem y7l:∀{l:List It} {x:vx (l.map (·.t))} {i:It},i∈l→∃v,(⟨i,v⟩:(i:It)×i.t.den)∈EJ l x
 |[],_,_,h=>by cases h
 |[i],x,j,h=>by
  rw[qE]at h;subst h;exact⟨x,qE.2 rfl⟩
 | i::j::r,x,k,h=>by
  rcases qF.1 h with rfl|h
  ·exact⟨x.1,zR⟩
  ·obtain⟨v,hv⟩:=y7l (x:=x.2) h;exact⟨v,qo _ hv⟩
theorem zip_fst:∀{l:List It} {x:vx (l.map (·.t))} {e:(i:It)×i.t.den},e∈EJ l x→e.1∈l
 |[],_,_,h=>by cases h
 |[i],x,e,h=>by
  simp only[EJ,qE]at h;subst h;exact qE.2 rfl
 |i::j::r,x,e,h=>by
  simp only[EJ]at h;rcases qF.1 h with rfl|h
  ·exact zR
  ·exact qo _ (zip_fst (l:=j::r) h)
theorem y4z:∀{l:List It} {x:vx (l.map (·.t))},grab σ l=some x→∀e∈EJ l x,D2 σ e.1=some e.2
 |[],_,_,_,h=>by cases h
 |[i],x,h,e,he=>by
  simp only[EJ,qE]at he;subst he;exact h
 | i::j::r,x,h,e,he=>by
  simp only[grab]at h;split at h
  ·rename_i v v' h1 h2;simp only[qb]at h;subst h;simp only[EJ]at he;rcases qF.1 he with rfl|he
   ·exact h1
   ·exact y4z (l:=j::r) h2 e he
  ·cases h
def AR(e:(i:It)×i.t.den):AVal :=.data e.1.t e.2 e.1.own
def B4(e:(i:It)×i.t.den):Box:=⟨e.1.tid,e.1.t,e.2,e.1.own,e.1.rows⟩
theorem y43(i:It)(x:i.t.den)(s:Nat)(v:AVal)(h:(Y3 σ i x).env s=some v):(i.isBox=false∧i.id=s∧v=AR ⟨i,x⟩)∨σ.env s=some v:=by
 unfold Y3 at h;split at h
 ·rename_i hb;by_cases hs:s=i.id
  ·subst hs;simp only[jy,qb]at h;exact .inl ⟨hb,rfl,h.symm⟩
  ·simp only[vN _ _ _ _ hs]at h;exact .inr h
 ·exact .inr h
theorem y44(i:It)(x:i.t.den)(s:Nat)(v:Box)(h:(Y3 σ i x).box s=some v):(i.isBox=true∧i.id=s∧v=B4 ⟨i,x⟩)∨σ.box s=some v:=by
 unfold Y3 at h;split at h
 ·exact .inr h
 ·rename_i hb;by_cases hs:s=i.id
  ·subst hs;simp only[jy,qb]at h;exact .inl ⟨hb,rfl,h.symm⟩
  ·simp only[vN _ _ _ _ hs]at h;exact .inr h
theorem Ia(i:It)(x:i.t.den)(s:Nat)(v:Box)(h:σ.box s=some v):∃v,(Y3 σ i x).box s=some v:=by
 unfold Y3;split
 ·exact⟨v,h⟩
 ·by_cases hs:s=i.id
  ·subst hs;exact⟨_,jy _ _ _⟩
  ·exact⟨v,by simp only[vN _ _ _ _ hs];exact h⟩
theorem Ll(i:It)(x:i.t.den)(hb:i.isBox=true):∃v,(Y3 σ i x).box i.id=some v:=by
 unfold Y3;split
 ·rename_i h;rw[hb]at h;cases h
 ·exact⟨_,jy _ _ _⟩
theorem y42(i:It)(x:i.t.den):(Y3 σ i x).tok=σ.tok:=by unfold Y3;split<;>rfl
theorem y8q:∀{l:List It} {σ:St} {x:vx (l.map (·.t))} {s:Nat} {v:AVal},(put σ l x).env s=some v→(∃e∈EJ l x,e.1.isBox=false∧e.1.id=s∧v=AR e)∨σ.env s=some v
 |[],_,_,_,_,h =>.inr h
 |[i],σ,x,s,v,h=>(y43 i x s v h).imp (fun⟨h1,h2,h3⟩=>⟨⟨i,x⟩,qE.2 rfl,h1,h2,h3⟩) id
 |i::j::r,σ,x,s,v,h=>by
  rcases y8q (l:=j::r) (x:=x.2) h with⟨e,he,h1⟩|h
  ·exact .inl ⟨e,qo _ he,h1⟩
  ·exact(y43 i x.1 s v h).imp (fun⟨h1,h2,h3⟩=>⟨⟨i,x.1⟩,zR,h1,h2,h3⟩) id
theorem mg:∀{l:List It} {σ:St} {x:vx (l.map (·.t))} {s:Nat} {v:Box},(put σ l x).box s=some v→(∃e∈EJ l x,e.1.isBox=true∧e.1.id=s∧v=B4 e)∨σ.box s=some v
 |[],_,_,_,_,h =>.inr h
 |[i],σ,x,s,v,h=>(y44 i x s v h).imp (fun⟨h1,h2,h3⟩=>⟨⟨i,x⟩,qE.2 rfl,h1,h2,h3⟩) id
 |i::j::r,σ,x,s,v,h=>by
  rcases mg (l:=j::r) (x:=x.2) h with⟨e,he,h1⟩|h
  ·exact .inl ⟨e,qo _ he,h1⟩
  ·exact(y44 i x.1 s v h).imp (fun⟨h1,h2,h3⟩=>⟨⟨i,x.1⟩,zR,h1,h2,h3⟩) id
theorem Uq:∀{l:List It} {σ:St} {x:vx (l.map (·.t))} {s:Nat} {v:Box},σ.box s=some v→∃v,(put σ l x).box s=some v
 |[],_,_,_,v,h=>⟨v,h⟩
 |[i],σ,x,s,v,h=>Ia i x s v h
 |i::j::r,σ,x,s,v,h=>by
  obtain⟨v',h'⟩:=Ia i x.1 s v h;exact Uq (l:=j::r) (x:=x.2) h'
theorem y40:∀{l:List It} {σ:St} {x:vx (l.map (·.t))} {i:It},i∈l→i.isBox=true→∃v,(put σ l x).box i.id=some v
 |[],_,_,_,h,_=>by cases h
 |[i],σ,x,j,h,hb=>by
  rw[qE]at h;subst h;exact Ll j x hb
 | i::j::r,σ,x,k,h,hb=>by
  rcases qF.1 h with rfl|h
  ·obtain⟨v,hv⟩:=Ll (σ:=σ) k x.1 hb;exact Uq (l:=j::r) (x:=x.2) hv
  ·exact y40 (l:=j::r) (x:=x.2) h hb
theorem P2:∀{l:List It} {σ:St} {x:vx (l.map (·.t))},(put σ l x).tok=σ.tok
 |[],_,_=>rfl
 |[i],_,x=>y42 i x
 |i::j::r,_,x=>(P2 (l:=j::r) (x:=x.2)).trans (y42 i x.1)
end Go.Lift
namespace Go.Lift
open Go Go.RowKit
variable [wB] [Mf]
variable {P:Program} {Γ:QW} {base:Nat} {κ κ' κ2:Nat→Option Nat} {M M':Mem} {σ σ0 τ σ' τ':St} {a a':Act} {w w':World}
theorem U3{h:Own}:∀{o:Own} {l:List Nat},lO h o=some l→∃pr:List (Nat×Nat),pr.map (·.2)=l∧(pr.map (·.1)).Sublist (o.filterMap (·.2))∧
  (∀p s,(p,s)∈o→∃s',(p,s')∈h∧∀j,s'=some j→∃k,s=some k∧(k,j)∈pr)∧∀e∈pr,∃p,(p,some e.2)∈h
 |[],l,h0=>by
  simp only[lO,qb]at h0;subst h0;exact⟨[],rfl,List.Sublist.slnil,(fun p s hm=>by cases hm),(fun e he=>by cases he)⟩
 | (p, s)::r,l,h0=>by
  simp only[lO]at h0;have vv:∀q s',h.find? (fun(q,_)=>match WH p q with|some []=>true|_=>false)=some (q,s')→(p,s')∈h:=fun q s' hf=>by
   have hm:=List.mem_of_find?_eq_some hf;have hp:=List.find?_some hf;simp only at hp;split at hp
   ·rename_i hs;obtain⟨rfl,_⟩:=ir _ _ _ hs;simpa using hm
   ·cases hp
  split at h0
  ·rename_i q l' hf hr;simp only[qb]at h0;subst h0;obtain⟨pr,h1,h2,h3,h4⟩:=U3 hr;refine⟨pr,h1,?_,fun p' s' hm =>?_,h4⟩
   ·cases s with
    |none=>exact h2
    |some k=>exact h2.cons k
   ·rcases qF.1 hm with e|hm
    ·cases e;exact⟨none,vv _ _ hf,fun j hj=>by cases hj⟩
    ·exact h3 p' s' hm
  ·rename_i q j l' hf hr;cases s with
   |none=>simp at h0
   |some k=>
    simp only[Option.isSome_some,yp,qb]at h0;subst h0;obtain⟨pr,h1,h2,h3,h4⟩:=U3 hr;refine⟨(k,j)::pr,by simp[h1],?_,fun p' s' hm =>?_,fun e he =>?_⟩
    ·exact h2.cons_cons k
    ·rcases qF.1 hm with e|hm
     ·cases e;exact⟨some j,vv _ _ hf,fun j' hj=>by cases hj;exact⟨k,rfl,zR⟩⟩
     ·obtain⟨s2,a1,a2⟩:=h3 p' s' hm;exact⟨s2,a1,fun j' hj=>by
       obtain⟨k',b1,b2⟩:=a2 j' hj;exact⟨k',b1,qo _ b2⟩⟩
    ·rcases qF.1 he with rfl|he
     ·exact⟨p,vv _ _ hf⟩
     ·exact h4 e he
  ·cases h0
theorem y0f:∀{l:List It} {m:List Nat},JV σ l=some m→∃pr:List (Nat×Nat),pr.map (·.2)=m∧(pr.map (·.1)).Sublist (ZA l)∧
  (∀i∈l,∀p s,(p,s)∈i.own→∃s',(p,s')∈Fq σ i∧∀j,s'=some j→∃k,s=some k∧(k,j)∈pr)∧∀e∈pr,∃i∈l,∃p,(p,some e.2)∈Fq σ i
 |[],m,h=>by
  simp only[JV,qb]at h;subst h;exact⟨[],rfl,List.Sublist.slnil,(fun i hi=>by cases hi),(fun e he=>by cases he)⟩
 | i :: r,m,h=>by
  simp only[JV]at h;split at h
  ·rename_i l m' h1 h2;simp only[qb]at h;subst h;obtain⟨pr1,a1,a2,a3,a4⟩:=U3 h1;obtain⟨pr2,b1,b2,b3,b4⟩:=y0f h2;refine⟨pr1++pr2,by rw[zv,a1,b1],?_,fun i' hi p s hm =>?_,fun e he =>?_⟩
   ·rw[zv];exact a2.append b2
   ·rcases qF.1 hi with rfl|hi
    ·obtain⟨s',c1,c2⟩:=a3 p s hm;exact⟨s',c1,fun j hj=>by
      obtain⟨k,d1,d2⟩:=c2 j hj;exact⟨k,d1,q8 _ d2⟩⟩
    ·obtain⟨s',c1,c2⟩:=b3 i' hi p s hm;exact⟨s',c1,fun j hj=>by
      obtain⟨k,d1,d2⟩:=c2 j hj;exact⟨k,d1,zx _ d2⟩⟩
   ·rcases zB.1 he with he|he
    ·obtain⟨p,hp⟩:=a4 e he;exact⟨i,zR,p,hp⟩
    ·obtain⟨i',hi,p,hp⟩:=b4 e he;exact⟨i',qo _ hi,p,hp⟩
  ·cases h
theorem UL:∀{pr:List (Nat×Nat)} {k j:Nat},pr.lookup k=some j→(k,j)∈pr
 |[],_,_,h=>by simp at h
 | (k',j')::r,k,j,h=>by
  rw[List.lookup_cons]at h;split at h
  ·rename_i e;simp only[qb]at h;have:k=k':=by simpa using e
   subst this h;exact zR
  ·exact qo _ (UL h)
theorem y01:∀{pr:List (Nat×Nat)} {k j:Nat},(pr.map (·.1)).Nodup→(k,j)∈pr→pr.lookup k=some j
 |[],_,_,_,h=>by cases h
 | (k',j')::r,k,j,hn,h=>by
  rw[List.lookup_cons];simp only[zl,z6]at hn;rcases qF.1 h with e|h2
  ·cases e;simp
  ·have:(k==k')=false:=by
    cases hb:k==k' with
    |false=>rfl
    |true=>
     have:k=k':=by simpa using hb
     subst this;exact absurd (List.mem_map_of_mem (f:=(·.1)) h2) hn.1
   rw[this];exact y01 hn.2 h2
theorem y4a:∀{pr:List (Nat×Nat)} {k k' j:Nat},(pr.map (·.2)).Nodup→(k,j)∈pr→(k',j)∈pr→k=k'
 |[],_,_,_,_,h,_=>by cases h
 |(k0,j0)::r,k,k',j,hn,h,h'=>by
  simp only[zl,z6]at hn;rcases qF.1 h with e|h<;>rcases qF.1 h' with e'|h'
  ·cases e;cases e';rfl
  ·cases e;exact absurd (List.mem_map_of_mem (f:=(·.2)) h') hn.1
  ·cases e';exact absurd (List.mem_map_of_mem (f:=(·.2)) h) hn.1
  ·exact y4a hn.2 h h'
def WV(κ:Nat→Option Nat)(pr:List (Nat×Nat))(ids:List Nat)(i:Nat):Option Nat:=
 match pr.lookup i with
 |some j=>κ j
 |none=>if i∈ids then κ i else none
theorem y9r{κ:Nat→Option Nat}{pr:List (Nat×Nat)}{ids:List Nat}{i j:Nat}(h:WV κ pr ids i=some j):∃i',κ i'=some j:=by
 unfold WV at h;split at h
 ·exact⟨_,h⟩
 ·split at h
  ·exact⟨_,h⟩
  ·cases h
theorem y4b{tk Vy:Nat→Bool}{pr:List (Nat×Nat)}{t:Ty}{cs:List Value}{o o':Own}(h:z93 κ M w tk t cs o)
  (h1:∀p s,(p,s)∈o'→∃s',(p,s')∈o∧∀j,s'=some j→∃k,s=some k∧(k,j)∈pr) (h2:∀p k,(p,some k)∈o'→Vy k=true) (h3:∀k j,(k,j)∈pr→κ2 k=κ j):
  z93 κ2 M w Vy t cs o':=by
 intro p s hm;obtain⟨s',a1,a2⟩:=h1 p s hm;obtain⟨off,e,v,b1,b2,b3,b4⟩:=h p s' a1;refine⟨off,e,v,b1,b2,b3,?_⟩;cases s' with
 |none=>
  have hv:v = .slice none 0 0:=b4;cases s with
  |none=>exact hv
  |some k=>exact⟨h2 p k hm,.inl hv⟩
 |some j=>
  obtain⟨k,rfl,hk⟩:=a2 j rfl;refine⟨h2 p k hm,b4.2.imp id ?_⟩;rintro⟨g,n,cap,c1,c2,c3⟩;exact⟨g,n,cap,(h3 k j hk).trans c1,c2,c3⟩
theorem Ac{l:List Nat}{b:Nat}:(l.any fun i=>Nat.beq i b)=true↔b∈l:=by
 rw[zI];constructor
 ·rintro⟨i,hi,e⟩;rw[←qq e];exact hi
 ·exact fun h=>⟨b,h,ym b⟩
theorem Ce{L:Desc}{b:Nat}:L.keeps b=true↔b∈L.kb:=Ac
def DY(l:List It):List Nat:=(l.filter (·.isBox)).map (·.id)
theorem Ae{l:List It}{b:Nat}:b∈DY l↔∃i∈l,i.isBox=true∧i.id=b:=by
 unfold DY;rw[zG];constructor
 ·rintro⟨i,hi,e⟩;rw[yw]at hi;exact⟨i,hi.1,hi.2,e⟩
 ·rintro⟨i,hi,hb,e⟩;exact⟨i,yw.2 ⟨hi,hb⟩,e⟩
theorem y6u{L:Desc}{b:Nat}:L.hasBox b=true↔b∈L.kb∨b∈DY L.its:=by
 unfold Desc.hasBox;rw[yh,Ac,Ae,zI];constructor
 ·rintro(h|⟨i,hi,e⟩)
  ·exact .inl h
  ·simp only[qg]at e;exact .inr ⟨i,hi,e.1,qq e.2⟩
 ·rintro(h|⟨i,hi,hb,rfl⟩)
  ·exact .inl h
  ·exact .inr ⟨i,hi,by simp[hb]⟩
structure OkD (L:Desc) (σ:St) (ws:List Nat):Prop where
 kb:∀b,b∈L.kb→b∉ws
 bx:∀i∈L.its,i.isBox=true→i.id∉ws
 nd:(ZA L.its++DY L.its++L.kb).Nodup
theorem oH{L:Desc}{ws:List Nat}(h:L.ok σ ws=true):OkD L σ ws:=by
 unfold Desc.ok at h;simp only[qg]at h;obtain⟨⟨⟨h1,h2⟩,h3⟩,_⟩:=h;have FW:∀{b:Nat},(!(ws.any fun i=>Nat.beq i b))=true→b∉ws:=fun{b} hb hm=>by
  rw[Ac.2 hm]at hb;cases hb
 refine⟨fun b hb=>FW (qW.1 h1 b hb),fun i hi hb =>?_,tP h3⟩;have:=qW.1 h2 i hi;rw[hb]at this;simp only[qv,qg]at this;exact FW this.1
theorem zy2{i:It}{v:i.t.den}(h:D2 σ i=some v)(hb:i.isBox=false):∃o,σ.env i.id=some (.data i.t v o)∧Fq σ i=o:=by
 unfold D2 at h;simp only[hb]at h;split at h
 ·rename_i u x o he;obtain⟨rfl,hx⟩:=HQ h;have hx:v=x:=hx;subst hx;exact⟨o,he,by unfold Fq;simp only[hb,he]⟩
 ·cases h
theorem Rb{i:It}{v:i.t.den}(h:D2 σ i=some v)(hb:i.isBox=true):∃o,σ.box i.id=some ⟨i.tid,i.t,v,o,i.rows⟩∧Fq σ i=o:=by
 unfold D2 at h;simp only[hb]at h;split at h
 ·rename_i B he;split at h
  ·rename_i hc;obtain⟨tid,t,x,own,rows⟩:=B;obtain⟨ht,hx⟩:=HQ h;simp only at ht hx hc;obtain⟨h1,h2⟩:=hc;subst h1 h2;cases i with
   |mk ib iid itid it iown irows=>
    simp only at ht hx hb he⊢;subst ht;have hx:v=x:=hx;subst hx;exact⟨own,he,by unfold Fq;simp only[hb,he]⟩
  ·cases h
 ·cases h
theorem y8d(hR:jW P base κ M σ a w){i:It}{p:wm}{j:Nat}(h:(p,some j)∈Fq σ i):σ.tok j=true:=by
 unfold Fq at h;split at h
 ·split at h
  ·rename_i t x o he;obtain⟨_,_,_,_,_,_,hv⟩:=(hR.env _ _ he).2 p (some j) h;exact hv.1
  ·cases h
 ·split at h
  ·rename_i B he;obtain⟨_,_,_,⟨_,_,_,_,ho⟩|⟨_,_,_,_,_,_,rfl,_⟩⟩:=hR.bx _ _ he;rotate_left
   ·cases h
   obtain⟨_,_,_,_,_,_,hv⟩:=ho p (some j) h;exact hv.1
  ·cases h
theorem y16(B:Box)(o:Own):Alike B {B with own:=o}:=⟨B.x,o,rfl,fun _=>rfl⟩
def uV(L:Desc)(tk:Nat→Bool)(κ' κ2:Nat→Option Nat):Prop:=
 (∀i g,κ2 i=some g→∃j,κ' j=some g∧(tk j=true∨(j=i∧(i∈DY L.its∨i∈L.kb))))∧∀i,i∉ZA L.its→i∉DY L.its→i∉L.kb→κ2 i=none
theorem mC(hR:jW P base κ M σ a w){L:Desc}{ws:List Nat}(jP:OkD L σ ws)(j4:jW P base κ' M' σ' a' w')(h0:σ0.box=σ.box)
  (hF:Fr base ws κ M σ0 a w κ' M' σ' a' w') (SV:∀b,b∈L.kb→σ'.dirty b=false) {s:L.den} (hg:L.grab0 σ'=some s):
  ∃κ2,jW P base κ2 M' (L.put σ ws s) a' w'∧Fr base ws κ M σ0 a w κ2 M' ((L.put σ ws s).back σ0 L) a' w'∧uV L σ'.tok κ' κ2:=by
 unfold Desc.grab0 at hg;split at hg
 ·rename_i FT;unfold PI at FT;split at FT
  ·rename_i m hm;have SP:=tP FT;obtain⟨pr,p1,p2,p3,p4⟩:=y0f hm;have hz:=y4z hg;have ZF:=jP.nd;rw[yj]at ZF;obtain⟨pq,_,po⟩:=ZF;rw[yj]at pq;obtain⟨Oa,_,Oe⟩:=pq;have ao:(pr.map (·.1)).Nodup:=p2.nodup Oa;have oU:(pr.map (·.2)).Nodup:=by rw[p1];exact(yj.1 SP).1
   have SW:∀k j,(k,j)∈pr→k∈ZA L.its:=fun k j h=>p2.subset (zG.2 ⟨(k,j),h,rfl⟩)
   have hTB:∀k,k∈ZA L.its→k∉DY L.its:=fun k h h'=>Oe k h k h' rfl
   have hTK:∀k,k∈ZA L.its→k∉L.kb:=fun k h h'=>po k (q8 _ h) k h' rfl
   have hjK:∀k j,(k,j)∈pr→j∉L.kb:=fun k j h h'=>(yj.1 SP).2.2 j (by rw[←p1];exact zG.2 ⟨(k,j),h,rfl⟩) j h' rfl
   have SX:∀k j,(k,j)∈pr→σ'.tok j=true:=fun k j h=>by
    obtain⟨i,_,p,hp⟩:=p4 (k,j) h;exact y8d j4 hp
   let ids:=DY L.its++L.kb
   have oL:∀k j,(k,j)∈pr→WV κ' pr ids k=κ' j:=fun k j h=>by unfold WV;rw[y01 ao h]
   have kId:∀i,i∈ids→WV κ' pr ids i=κ' i:=fun i hi=>by
    unfold WV;split
    ·rename_i j hj;have:=SW i j (UL hj);rcases zB.1 hi with h|h
     ·exact absurd h (hTB i this)
     ·exact absurd h (hTK i this)
    ·rw[qH hi]
   have Dh:∀i g,WV κ' pr ids i=some g→(∃j,(i,j)∈pr∧κ' j=some g)∨(i∈ids∧κ' i=some g):=fun i g h=>by
    unfold WV at h;split at h
    ·rename_i j hj;exact .inl ⟨j,UL hj,h⟩
    ·split at h
     ·rename_i hi;exact .inr ⟨hi,h⟩
     ·cases h
   have kKb:∀b,b∈L.kb→WV κ' pr ids b=κ' b:=fun b hb=>kId b (zx _ hb)
   have Nu:∀b,b∈DY L.its→WV κ' pr ids b=κ' b:=fun b hb=>kId b (q8 _ hb)
   have Fp:∀b,b∈L.kb→Holds κ M w (WV κ' pr ids) M' w' b:=fun b hb=>by
    obtain⟨_,e1,e2⟩:=hF.ids b (jP.kb b hb) (SV b hb);exact⟨(kKb b hb).trans e1,e2⟩
   let τ:=L.put σ ws s
   have Yd:∀k,τ.tok k=((L.keeps k&&σ.tok k)||(ZA L.its).any (fun i=>Nat.beq i k)):=fun k=>by
    show(put (σ.base L ws) L.its s).tok k=_;rw[P2];rfl
   have ol:∀k,k∈ZA L.its→τ.tok k=true:=fun k hk=>by rw[Yd,Ac.2 hk,Bool.or_true]
   have Nf:∀k,k∈L.kb→σ.tok k=true→τ.tok k=true:=fun k hk ht=>by rw[Yd,Ce.2 hk,ht];rfl
   have ac:∀i∈L.its,∀p k,(p,some k)∈i.own→k∈ZA L.its:=fun i hi p k hp=>jj.2 ⟨i,hi,yd.2 ⟨(p,some k),hp,rfl⟩⟩
   have oM:∀e∈EJ L.its s,e.1.isBox=true→∃o,σ'.box e.1.id=some ⟨e.1.tid,e.1.t,e.2,o,e.1.rows⟩∧Fq σ' e.1=o∧WV κ' pr ids e.1.id=κ e.1.id∧∃B,σ.box e.1.id=some B∧Alike B (B4 e):=fun e he hb=>by
    obtain⟨o,h1,h2⟩:=Rb (hz e he) hb;have hi:=zip_fst he;obtain⟨e1,B,hB,Yu⟩:=hF.bx _ (jP.bx e.1 hi hb) _ h1;rw[h0]at hB;exact⟨o,h1,h2,(Nu _ (Ae.2 ⟨e.1,hi,hb,rfl⟩)).trans e1,B,hB,Yu.trans (y16 _ e.1.own)⟩
   have WB:∀b B,(σ.base L ws).box b=some B→b∈L.kb∧∃B0,σ.box b=some B0∧B={B0 with own:=Own.keep L B0.own}:=fun b B hB=>by
    simp only[St.base]at hB;split at hB
    ·rename_i hk;rw[qB]at hB;obtain⟨B0,h1,h2⟩:=hB;exact⟨Ce.1 hk,B0,h1,h2.symm⟩
    ·cases hB
   have Ps:∀b B,τ.box b=some B→WV κ' pr ids b=κ b∧∃B0,σ.box b=some B0∧Alike B0 B:=fun b B hB=>by
    rcases mg hB with⟨e,he,hb,rfl,rfl⟩|hB
    ·obtain⟨_,_,_,h1,h2⟩:=oM e he hb;exact⟨h1,h2⟩
    ·obtain⟨hk,B0,h1,rfl⟩:=WB b B hB;exact⟨(Fp b hk).1,B0,h1,y16 _ _⟩
   have fQ:∀b B,L.hasBox b=true→σ.box b=some B→∃B',τ.box b=some B':=fun b B hh hB=>by
    rcases y6u.1 hh with hk|hb
    ·have:(σ.base L ws).box b=some {B with own:=Own.keep L B.own}:=by
      simp only[St.base];rw[qH (Ce.2 hk),hB];rfl
     exact Uq this
    ·obtain⟨i,hi,XG,rfl⟩:=Ae.1 hb;exact y40 hi XG
   have Vl:∀b B,L.hasBox b=true→σ.box b=some B→WV κ' pr ids b=κ b∧∃B',τ.box b=some B'∧Alike B B':=fun b B hh hB=>by
    obtain⟨B',vB⟩:=fQ b B hh hB;obtain⟨h1,B0,h2,h3⟩:=Ps b B' vB;rw[hB]at h2;cases h2;exact⟨h1,B',vB,h3⟩
   have G0:∀{t:Ty} {cs:List Value} {o:Own},z93 κ M w σ.tok t cs o→z93 (WV κ' pr ids) M' w' τ.tok t cs (Own.keep L o):=fun{t cs o} h=>h.turn fun p q hm'=>by
    simp only[Own.keep,yw]at hm';refine⟨hm'.1,fun k hk ht =>?_⟩;subst hk;have Gd:=Ce.1 hm'.2;exact⟨Nf k Gd ht,Fp k Gd⟩
   refine⟨WV κ' pr ids,⟨fun sl v hv =>?_,fun b B hB =>?_,j4.good,fun i j g hi hj =>?_,fun i g hi =>?_,fun i B hB =>?_,j4.low⟩,
    ⟨hF.below,hF.le,hF.mem,hF.size,hF.defers,hF.tmps,fun i hi hd =>?_,fun i hi B hB =>?_,hF.oth,.of hF.same.frame (fun i j h=>by
     obtain⟨i',h'⟩:=y9r h;exact hF.same.src i' j h') hF.same.mem⟩,fun i g hi =>?_,fun i h1 h2 h3 =>?_⟩
   ·rcases y8q hv with⟨e,he,hb,rfl,rfl⟩|hv
    ·obtain⟨o,h1,h2⟩:=zy2 (hz e he) hb;have hA:=j4.env _ _ h1;have hi:=zip_fst he;refine⟨hA.1,y4b hA.2 (fun p q hm' =>?_) (fun p k hm'=>ol k (ac e.1 hi p k hm')) oL⟩;have:=p3 e.1 hi p q hm';rwa [h2]at this
    ·simp only[St.base]at hv;split at hv
     ·cases hv
     ·rename_i Y8;have Y8:sl∉ws:=fun hm'=>Y8 (Ac.2 hm')
      split at hv
      ·rename_i v0 H5;have hA:=hR.env sl v0 H5;rw[hF.tmps sl Y8];generalize a.tmps.getD sl undef=u at hA;cases v0 with
       |data t x o=>
        simp only[D3,qb]at hv;subst hv;exact⟨ZZ hF.le hA.1,G0 hA.2⟩
       |bptr b p=>
        simp only[D3]at hv;split at hv
        ·rename_i hh;simp only[qb]at hv;subst hv;obtain⟨B,g,off,q1,q2,q3,q4⟩:=hA;obtain⟨r1,B',r2,x',wu,rfl,r4⟩:=Vl b B hh q1;exact⟨_,g,off,r2,r1.trans q2,(r4 p).trans q3,q4⟩
        ·cases hv
       |rowp b=>
        simp only[D3]at hv;split at hv
        ·rename_i hh;simp only[qb]at hv;subst hv;obtain⟨tid,e,l,own,g,cap,q1,q2,q0,q3⟩:=hA;obtain⟨r1,B',r2,x',wu,rfl,r4⟩:=Vl b _ hh q1;exact⟨tid,e,x',wu,g,cap,r2,r1.trans q2,by rw[iw r4];exact q0,by rw[iw r4];exact q3⟩
        ·cases hv
       |mapp b=>
        simp only[D3]at hv;split at hv
        ·rename_i hh;simp only[qb]at hv;subst hv;obtain⟨tid,kt,vt,l,own,g,q1,q2,q3⟩:=hA;obtain⟨r1,B',r2,x',wu,rfl,r4⟩:=Vl b _ hh q1;exact⟨tid,kt,vt,x',wu,g,r2,r1.trans q2,q3⟩
        ·cases hv
       |iter b e F=>
        simp only[D3]at hv;split at hv
        ·rename_i hh;simp only[qb]at hv;subst hv;obtain⟨tid,s1,own,g,gf,lb,q1,q2,q3,q4⟩:=hA;obtain⟨r1,B',r2,x',wu,rfl,r4⟩:=Vl b _ hh q1;exact⟨tid,x',wu,g,gf,lb,r2,r1.trans q2,q3,q4.mono hF.le⟩
        ·cases hv
       |tup ts x=>
        simp only[D3,qb]at hv;subst hv;obtain⟨vs,q1,q2⟩:=hA;exact⟨vs,q1,tU hF.le _ _ _ q2⟩
       |undef=>simp only[D3]at hv;cases hv
       |raw _=>simp only[D3]at hv;cases hv
       |clo f caps=>simp only[D3]at hv;cases hv
      ·cases hv
   ·rcases mg hB with⟨e,he,hb,rfl,rfl⟩|hB
    ·obtain⟨o,h1,h2⟩:=Rb (hz e he) hb;have hi:=zip_fst he;obtain⟨g,q1,q5,⟨jT,E,q2,q3,q4⟩|⟨tid,kt,vt,l,es,c,Zf,q2,q3⟩⟩:=j4.bx _ _ h1;rotate_left
     ·have wQ:o=[]:=congrArg Box.own Zf;have ho:e.1.own=[]:=by
       cases hw:e.1.own with
       |nil=>rfl
       |cons p r=>
        obtain⟨s',hs',_⟩:=p3 e.1 hi p.1 p.2 (by rw[hw];simp);rw[h2,wQ]at hs';cases hs'
      refine⟨g,(Nu _ (Ae.2 ⟨e.1,hi,hb,rfl⟩)).trans q1,q5,.inr ⟨tid,kt,vt,l,es,c,?_,q2,q3⟩⟩;unfold B4;rw[ho];subst wQ;exact Zf
     refine .mk ((Nu _ (Ae.2 ⟨e.1,hi,hb,rfl⟩)).trans q1) q2 q3 (y4b q4 (fun p q hm' =>?_) (fun p k hm'=>ol k (ac e.1 hi p k hm')) oL) q5;have:=p3 e.1 hi p q hm';rwa [h2]at this
    ·obtain⟨hk,B0,h1,rfl⟩:=WB b B hB;obtain⟨r1,r2⟩:=Fp b hk;obtain⟨g,q1,q5,⟨jT,E,q2,q3,q4⟩|⟨tid,kt,vt,l,es,c,rfl,q2,q3⟩⟩:=hR.bx b B0 h1
     ·obtain⟨r3,r4⟩:=r2 g q1;exact .mk (r1.trans q1) (r3.trans q2) (UR hF.le q3) (G0 q4) fun o=>(r4 o).trans (q5 o)
     ·obtain⟨r3,r4⟩:=r2 g q1;exact⟨g,r1.trans q1,fun o=>(r4 o).trans (q5 o),.inr ⟨tid,kt,vt,l,es,c,rfl,r3.trans q2,q3⟩⟩
   ·
    have tb:∀k j b,(k,j)∈pr→b∈ids→κ' j=some g→κ' b=some g→False:=fun k j b h1 h2 h3 h4=>by
     have:=j4.inj j b g h3 h4;subst this;rcases zB.1 h2 with h|h
     ·obtain⟨i,hi,hb,rfl⟩:=Ae.1 h;obtain⟨v,hv⟩:=y7l (x:=s) hi;obtain⟨o,q1,_⟩:=Rb (hz _ hv) hb;have:=j4.dis _ _ q1;rw[SX k _ h1]at this;cases this
     ·exact hjK k j h1 h
    rcases Dh i g hi with⟨j1,a1,a2⟩|⟨a1,a2⟩<;>rcases Dh j g hj with⟨j2,b1,b2⟩|⟨b1,b2⟩
    ·have:=j4.inj j1 j2 g a2 b2;subst this;exact y4a oU a1 b1
    ·exact(tb i j1 j a1 b1 a2 b2).elim
    ·exact(tb j j2 i b1 a1 b2 a2).elim
    ·exact j4.inj i j g a2 b2
   ·rcases Dh i g hi with⟨j,_,h⟩|⟨_,h⟩
    ·exact j4.kap j g h
    ·exact j4.kap i g h
   ·
    rw[Yd];have hnT:i∉ZA L.its→((ZA L.its).any fun k=>Nat.beq k i)=false:=fun h=>by
     cases hb:(ZA L.its).any fun k=>Nat.beq k i with
     |false=>rfl
     |true=>exact absurd (Ac.1 hb) h
    rcases mg hB with⟨e,he,hb,rfl,rfl⟩|hB
    ·have hi:e.1.id∈DY L.its:=Ae.2 ⟨e.1,zip_fst he,hb,rfl⟩;rw[hnT fun h=>hTB _ h hi];have:L.keeps e.1.id=false:=by
      cases hk:L.keeps e.1.id with
      |false=>rfl
      |true=>exact absurd rfl (po _ (zx _ hi) _ (Ce.1 hk))
     rw[this];rfl
    ·obtain⟨hk,B0,h1,rfl⟩:=WB i B hB;rw[hnT fun h=>hTK _ h hk,hR.dis i B0 h1];simp
   ·have hk:L.keeps i=true:=by
     cases hk:L.keeps i with
     |true=>rfl
     |false=>simp[St.back,hk]at hd
    have wb:=Ce.1 hk;exact⟨(hF.ids i hi (SV i wb)).1,Fp i wb⟩
   ·obtain⟨h1,B0,h2,h3⟩:=Ps i B hB;exact⟨h1,B0,by rw[h0];exact h2,h3⟩
   ·rcases Dh i g hi with⟨j,h1,h2⟩|⟨h1,h2⟩
    ·exact⟨j,h2,.inl (SX i j h1)⟩
    ·exact⟨i,h2,.inr ⟨rfl,zB.1 h1⟩⟩
   ·cases hc:WV κ' pr ids i with
    |none=>rfl
    |some g=>
     rcases Dh i g hc with⟨j,h4,_⟩|⟨h4,_⟩
     ·exact absurd (SW i j h4) h1
     ·rcases zB.1 h4 with h|h
      ·exact absurd h h2
      ·exact absurd h h3
  ·cases FT
 ·cases hg
end Go.Lift
