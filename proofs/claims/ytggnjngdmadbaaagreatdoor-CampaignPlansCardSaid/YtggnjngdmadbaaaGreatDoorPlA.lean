/-
  Moves in a yard in plain terms; what blocks; what is taken at once is never worse.
-/
import Derived.Test.YtggnjngdmadbaaaGreatDoorYaB
import Derived.Test.YtggnjngdmadbaaaGreatDoorPlF
set_option linter.all false
namespace Go.Lift
open Go
theorem Ft{x y:js}:jO x y=true↔x=y:=by
 unfold jO;rw[yo];constructor
 ·intro h;rw[kI,kI]at h;exact ByteArray.ext (Array.toList_inj.mp h)
 ·intro h;rw[h]
instance decBA:DecidableEq js:=fun a b=>decidable_of_iff (jO a b=true) Ft
theorem WZ{l:List js}{x:js}:hasB l x=true↔x∈l:=by
 unfold hasB;rw[zI];constructor
 ·rintro⟨z,hz,h⟩;rw[←Ft.1 h];exact hz
 ·exact fun h=>⟨x,h,Ft.2 rfl⟩
abbrev vl:=List (List js)
abbrev vr:=vl×List js
def pl(y:vl)(a:Nat):List js:=y.getD a []
def vj(y:vl)(a:Nat):vl:=y.set a (pl y a).dropLast
def Xz(y:vl)(b:Nat)(x:js):vl:=y.set b (pl y b++[x])
theorem mM{y:vl}{a:Nat}(h:a<y.length):∃l1 l2,y=l1++pl y a::l2∧l1.length=a∧∀q,y.set a q=l1++q::l2:=by
 refine⟨y.take a,y.drop (a+1),?_,by rw[zE];omega,fun q =>?_⟩
 ·unfold pl;rw[qC,qr h,qO];rw[List.getElem_cons_drop,List.take_append_drop]
 ·rw[List.set_eq_take_append_cons_drop,qH h]
theorem gR(y:vl)(a:Nat):(vj y a).length=y.length:=by unfold vj;rw[yx]
theorem y8t(y:vl)(b:Nat)(x:js):(Xz y b x).length=y.length:=by unfold Xz;rw[yx]
theorem Sz{y:vl}{a i:Nat}{q:List js}(h:a<y.length):pl (y.set a q) i=if i=a then q else pl y i:=by
 unfold pl;rw[qC,qC,kZ];by_cases e:i=a
 ·subst e;rw[qH rfl,qH rfl,qH h];rfl
 ·rw[qT (yL e),qT e]
theorem Sy{y:vl}{a i:Nat}(h:a<y.length):pl (vj y a) i=if i=a then(pl y a).dropLast else pl y i:=Sz h
theorem y8x{y:vl}{b i:Nat}{x:js}(h:b<y.length):pl (Xz y b x) i=if i=b then pl y b++[x]else pl y i:=Sz h
theorem Sx{y:vl}{a:Nat}(h:a<y.length):pl y a∈y:=by
 unfold pl;rw[qC,qr h,qO];exact List.getElem_mem h
theorem Gz{y:vl}{a:Nat}{q:List js}{x:js}(h:pl y a=q++[x]):a<y.length:=by
 rcases z7 a y.length with h1|h1
 ·exact h1
 ·unfold pl at h;rw[qC,zD h1,Option.getD_none]at h;simp at h
theorem mG{y:vl}{a:Nat}{q:List js}{x:js}(h:pl y a=q++[x]):y.flatten.Perm (x::(vj y a).flatten):=by
 obtain⟨l1,l2,h1,h2,h3⟩:=mM (Gz h);have e:vj y a=l1++q::l2:=by
  unfold vj;rw[h3,h,yJ]
 rw[e];rw[h]at h1;rw[h1];simp only[kK,yk,zM,List.singleton_append];refine List.Perm.trans (List.Perm.append_left l1.flatten (jm (l₁:=q) (a:=x) (l₂:=l2.flatten))) ?_;exact jm
theorem y8s{y:vl}{b:Nat}{x:js}(h:b<y.length):(Xz y b x).flatten.Perm (x::y.flatten):=by
 obtain⟨l1,l2,h1,h2,h3⟩:=mM h;have e:Xz y b x=l1++(pl y b++[x])::l2:=by unfold Xz;rw[h3]
 rw[e];rw(occs :=.pos [2]) [h1];simp only[kK,yk,zM,List.singleton_append];refine List.Perm.trans (List.Perm.append_left l1.flatten (jm (l₁:=pl y b) (a:=x) (l₂:=l2.flatten))) ?_;exact jm
inductive Stp:vr→(Int×Int)→vr→Nat→Prop
 |out {y:vl} {left q:List js} {x:js} {a:Nat}:pl y a=q++[x]→Stp (y,x::left) ((a:Int),-1) (vj y a,left) 0
 |mv {y:vl} {left q:List js} {x:js} {a b:Nat}:pl y a=q++[x]→b<y.length→a≠b→(pl y b).length<6→Stp (y,left) ((a:Int),(b:Int)) (Xz (vj y a) b x,left) 1
inductive Run:vr→List (Int×Int)→vr→Nat→Prop
 |nil (s:vr):Run s [] s 0
 |cons {s s1 s2:vr} {m:Int×Int} {l:List (Int×Int)} {c k:Nat}:Stp s m s1 c→Run s1 l s2 k→Run s (m::l) s2 (c+k)
theorem Stp.det{s s1 s2:vr}{m:Int×Int}{c d:Nat}(h:Stp s m s1 c)(k:Stp s m s2 d):s1=s2∧c=d:=by
 cases h with
 |@out y left q x a h1=>
  generalize hm:((a:Int),(-1:Int))=m at k;cases k with
  |@out _ _ q' x' a' h2=>
   simp only[qX,Int.natCast_inj,zA]at hm;subst hm;exact⟨rfl,rfl⟩
  |@mv _ _ q' x' a' b' h2 h3 h4 h5=>
   simp only[qX]at hm;omega
 |@mv y left q x a b h1 h2 h3 h4=>
  generalize hm:((a:Int),(b:Int))=m at k;cases k with
  |@out _ _ q' x' a' h2=>
   simp only[qX]at hm;omega
  |@mv _ _ q' x' a' b' g1 g2 g3 g4=>
   simp only[qX,Int.natCast_inj]at hm;obtain⟨rfl,rfl⟩:=hm;rw[h1]at g1;obtain⟨rfl,e⟩:=List.append_inj' g1 rfl;simp only[qM,zA]at e;subst e;exact⟨rfl,rfl⟩
theorem Run.append{s1 s2 s3:vr}{l1 l2:List (Int×Int)}{j k:Nat}(h:Run s1 l1 s2 j)(h2:Run s2 l2 s3 k):Run s1 (l1++l2) s3 (j+k):=by
 induction h with
 |nil s=>rw[qY];exact h2
 |cons hs _ ih=>rw[xA];exact .cons hs (ih h2)
theorem Run.one{s s1:vr}{m:Int×Int}{c:Nat}(h:Stp s m s1 c):Run s [m] s1 c:=by
 have:=Run.cons h (Run.nil s1);rwa [yK]at this
structure Vd (names req:List js) (p:Nat) (s:vr):Prop where
 len:s.1.length=p
 small:∀a,(pl s.1 a).length≤6
 nd:s.1.flatten.Nodup
 sub:∀x∈s.1.flatten,x∈names
 left:s.2=req.filter fun x=>hasB s.1.flatten x
theorem zq1{P:js→Bool}{req left:List js}{x:js}(hn:req.Nodup)(h:x::left=req.filter P):left=req.filter fun z=>P z&&decide (z≠x):=by
 have h1:(req.filter P).filter (fun z=>decide (z≠x))=left:=by
  rw[←h];have ZF:(x::left).Nodup:=by rw[h];exact hn.filter _
  rw[z6]at ZF;rw[kX (by simp),List.filter_eq_self.2];intro z hz;simp only[qI];exact fun e=>ZF.1 (e▸hz)
 rw[←h1,List.filter_filter];congr 1
 funext z
 exact Bool.and_comm _ _
theorem Vd.stp{names req:List js}{p:Nat}{s s':vr}{m:Int×Int}{c:Nat}(hr:req.Nodup)(h:Vd names req p s)(hs:Stp s m s' c):Vd names req p s':=by
 cases hs with
 |@out y left q x a h1=>
  have hf:=mG h1;have ZF:=hf.nodup h.nd;rw[z6]at ZF;have hlt:=Gz h1;refine⟨(gR y a).trans h.len,fun i =>?_,ZF.2,fun z hz=>h.sub z (hf.mem_iff.2 (qo _ hz)),?_⟩
  ·show(pl (vj y a) i).length≤6;rw[Sy hlt];split
   ·have:=h.small a;simp only at this;rw[List.length_dropLast];omega
   ·exact h.small i
  ·show left=_;rw[zq1 hr h.left];congr 1
   funext z
   simp only;rw[kn];simp only[qg,qI,WZ];constructor
   ·rintro⟨h2,h3⟩;rcases qF.1 (hf.mem_iff.1 h2)with e|e
    ·exact absurd e h3
    ·exact e
   ·intro h2;exact⟨hf.mem_iff.2 (qo _ h2),fun e=>ZF.1 (e▸h2)⟩
 |@mv y left q x a b h1 h2 h3 h4=>
  have hlt:=Gz h1;have hb:b<(vj y a).length:=by rw[gR];exact h2
  have hf:(Xz (vj y a) b x).flatten.Perm y.flatten:=(y8s hb).trans (mG h1).symm;refine⟨by show(Xz _ b x).length=p;rw[y8t,gR];exact h.len,fun i =>?_,hf.symm.nodup h.nd,fun z hz=>h.sub z (hf.mem_iff.1 hz),?_⟩
  ·show(pl (Xz (vj y a) b x) i).length≤6;rw[y8x hb];split
   ·rw[Sy hlt,qT (yL h3),qe,qj];omega
   ·rw[Sy hlt];split
    ·have:=h.small a;simp only at this;rw[List.length_dropLast];omega
    ·exact h.small i
  ·show left=_;refine h.left.trans ?_;congr 1
   funext z
   simp only;rw[kn,WZ,WZ];exact hf.mem_iff.symm
theorem Vd.run{names req:List js}{p:Nat}{s s':vr}{l:List (Int×Int)}{k:Nat}(hr:req.Nodup)(h:Vd names req p s)(hs:Run s l s' k):Vd names req p s':=by
 induction hs with
 |nil _=>exact h
 |cons hs _ ih=>exact ih (h.stp hr hs)
theorem Vd.lnd{names req:List js}{p:Nat}{s:vr}(hr:req.Nodup)(h:Vd names req p s):s.2.Nodup:=by rw[h.left];exact hr.filter _
theorem Vd.lsub{names req:List js}{p:Nat}{s:vr}(h:Vd names req p s):∀x∈s.2,x∈s.1.flatten:=by
 intro x hx;rw[h.left,yw]at hx;exact WZ.1 hx.2
def hL(left:List js)(y:vl):Nat:=(Xd left y).length
abbrev hS(s:vr):Nat:=hL s.2 s.1
theorem Ud(req:List js)(x:js):∀(r pre:List js),ZX req pre (r++[x])=ZX req pre r++(bif (pre++r).any (Zb req x)then[x]else[])
 |[],pre=>by
  rw[qP,Au,qL];show _++[]=[]++_;rw[qL,qP]
 |z::r,pre=>by
  rw[qS,Au,Au,Ud req x r (pre++[z]),zM,zM];rfl
theorem LH(left:List js)(l1 l2:vl)(q:List js):hL left (l1++q::l2)=hL left l1+(ZX left [] q).length+hL left l2:=by
 unfold hL Xd;rw[List.flatMap_append,xL,qe,qe];omega
theorem aG{left:List js}{y:vl}{a:Nat}{q:List js}(h:a<y.length):hL left (y.set a q)+(ZX left [] (pl y a)).length=hL left y+(ZX left [] q).length:=by
 obtain⟨l1,l2,h1,h2,h3⟩:=mM h;rw[h3,LH];rw(occs :=.pos [2]) [h1];rw[LH];omega
theorem aH{left:List js}{y:vl}{a:Nat}{q:List js}{x:js}(h:pl y a=q++[x]):hL left y=hL left (vj y a)+(bif q.any (Zb left x)then 1 else 0):=by
 have:=aG (left:=left) (q:=(pl y a).dropLast) (Gz h);unfold vj;rw[h,yJ,Ud,qe,qP]at this;rw[h,yJ];cases hc:q.any (Zb left x)<;>rw[hc]at this<;>simp at this⊢ <;> omega
theorem eT{left:List js}{y:vl}{b:Nat}{x:js}(h:b<y.length):hL left y≤hL left (Xz y b x):=by
 have:=aG (left:=left) (q:=pl y b++[x]) h;rw[Ud,qe]at this;unfold Xz;omega
theorem U4(x z:js)(l:List js):bd (x::l) z=if x=z then 0 else bd l z+1:=by
 unfold bd;rw[y0l];by_cases h:x=z
 ·rw[qH h,show jO x z=true from Ft.2 h];rfl
 ·rw[qT h];have:jO x z=false:=by
   cases e:jO x z with
   |false=>rfl
   |true=>exact absurd (Ft.1 e) h
  rw[this];rfl
theorem y7b(x z:js)(l:List js):Zb (x::l) x z=false:=by
 unfold Zb;rw[U4 x x,qH rfl];exact xW (by omega)
theorem y0w{x u z:js}{l:List js}(h1:x≠u)(h2:x≠z):Zb (x::l) u z=Zb l u z:=by
 unfold Zb;rw[U4,U4,qT h1,qT h2];congr 1
 simp only[eq_iff_iff];omega
theorem y0x{x:js}{l:List js}:∀(r pre:List js),(∀u∈pre,x≠u)→(∀u∈r,x≠u)→ZX (x::l) pre r=ZX l pre r
 |[],pre,_,_=>rfl
 | z::r,pre,h1,h2=>by
  have hz:=h2 z (by simp);rw[Au,Au,y0x r (pre++[z]) (fun u hu=>by
   rcases zB.1 hu with h|h
   ·exact h1 u h
   ·rw[qE.1 h];exact hz) (fun u hu=>h2 u (qo _ hu))]
  congr 2
  rw[kn];simp only[zI];constructor
  ·rintro⟨u,hu,h⟩;exact⟨u,hu,by rw[←y0w hz (h1 u hu)];exact h⟩
  ·rintro⟨u,hu,h⟩;exact⟨u,hu,by rw[y0w hz (h1 u hu)];exact h⟩
theorem y9y{x:js}{l:List js}:∀{y:vl},x∉y.flatten→hL (x::l) y=hL l y
 |[],_=>rfl
 |q::y,h=>by
  rw[yk,zB,not_or]at h;have ih:=y9y (l:=l) h.2;unfold hL Xd at ih⊢;rw[xL,xL,qe,qe,ih,y0x q [] (fun u hu=>by cases hu) (fun u hu e=>h.1 (by rw[e];exact hu))]
theorem rN{y:vl}{left q:List js}{x:js}{a:Nat}(hn:y.flatten.Nodup)(h:pl y a=q++[x]):hL (x::left) y=hL left (vj y a):=by
 rw[aH h];have ZF:=(mG h).nodup hn;rw[z6]at ZF;have:q.any (Zb (x::left) x)=false:=by
  rw[jb];intro z _;rw[y7b];exact yg
 rw[this,qu,yK];exact y9y ZF.1
theorem Pz{s s':vr}{m:Int×Int}{c:Nat}(hn:s.1.flatten.Nodup)(h:Stp s m s' c):hS s≤c+hS s':=by
 cases h with
 |@out y left q x a h1=>
  show hL (x::left) y≤0+hL left (vj y a);rw[rN (show y.flatten.Nodup from hn) h1];omega
 |@mv y left q x a b h1 h2 h3 h4=>
  show hL left y≤1+hL left (Xz (vj y a) b x);have e1:=aH (left:=left) h1;have e2:=eT (left:=left) (y:=vj y a) (b:=b) (x:=x) (by rw[gR];exact h2);cases hc:q.any (Zb left x)<;>rw[hc]at e1<;>simp at e1<;>omega
theorem Py{names req:List js}{p:Nat}{s s':vr}{l:List (Int×Int)}{k:Nat}(hr:req.Nodup)(hv:Vd names req p s)(h:Run s l s' k):hS s≤k+hS s':=by
 induction h with
 |nil s=>omega
 |cons hs _ ih=>
  have:=Pz hv.nd hs;have:=ih (hv.stp hr hs);omega
theorem yd5(u z:js):Zb [] u z=false:=by
 unfold Zb bd QC;exact xW (by omega)
theorem y5b:∀(r pre:List js),ZX [] pre r=[]
 |[],_=>rfl
 | z::r,pre=>by
  rw[Au,y5b r];have:pre.any (Zb [] z)=false:=by
   rw[jb];intro u _;rw[yd5];exact yg
  rw[this];rfl
theorem Px(y:vl):hL [] y=0:=by
 unfold hL Xd;rw[xf,List.flatMap_eq_nil_iff];intro q _;exact y5b q []
theorem tc{y:vl}{x:js}{i:Nat}(h:KD y x=some i):∃q,pl y i=q++[x]:=by
 unfold KD at h;rw[yM]at h;obtain⟨hi,h1,_⟩:=h;have Wl:pl y i=y[i]:=by
  unfold pl;rw[qC,qr hi,qO]
 rw[Wl];generalize y[i]=p at h1;by_cases hp:0<p.length
 ·rw[yE hp,qv]at h1;have:=Ft.1 h1;refine⟨p.dropLast,?_⟩;rw[←this,qC,qr (by omega),qO];have ju:p≠[]:=List.ne_nil_of_length_pos hp;have e:p[p.length-1]=p.getLast ju:=(List.getLast_eq_getElem ju).symm;rw[e];exact(List.dropLast_concat_getLast ju).symm
 ·rw[xW hp,qu]at h1;cases h1
theorem y5p{y:vl}{x:js}(h:KD y x=none)(a:Nat)(q:List js):pl y a≠q++[x]:=by
 intro e;have hlt:=Gz e;unfold KD at h;rw[xS]at h;have:=h _ (Sx hlt);rw[e]at this;rw[yE (by rw[qe,qj];omega),qv]at this;rw[qC,qe,qj,kW,zm (ql _),yV]at this;simp only[zr,qO]at this;rw[Ft.2 rfl]at this;cases this
def XI:Nat→vr→vr
 |0,s=>s
 | k+1,s=>match s.2 with
  |[]=>s
  |x::l=>match KD s.1 x with
   |none=>s
   |some i=>XI k (vj s.1 i,l)
def tS(s:vr):vr:=XI s.2.length s
def nY(s:vr):Prop:=∀x l,s.2=x::l→∀a q,pl s.1 a≠q++[x]
theorem Iq:∀(k:Nat) (s:vr),∃l,Run s l (XI k s) 0∧l.length+(XI k s).2.length=s.2.length
 |0,s=>⟨[],.nil s,by simp[XI]⟩
 |k+1,(y,[])=>⟨[],.nil _,by simp[XI]⟩
 | k+1,(y,x::l)=>by
  unfold XI;simp only;cases h:KD y x with
  |none=>exact⟨[],.nil _,by simp⟩
  |some i=>
   obtain⟨q,hq⟩:=tc h;obtain⟨ms,h1,h2⟩:=Iq k (vj y i,l);refine⟨((i:Int),-1)::ms,?_,?_⟩
   ·have:=Run.cons (.out hq) h1;exact this
   ·simp only[qk]at h2⊢;omega
theorem znr:∀(k:Nat) (s:vr),s.2.length≤k→nY (XI k s)
 |0,(y,[]),_=>fun x l h=>by cases h
 |0,(y,x::l),h=>by simp at h
 |k+1,(y,[]),_=>fun x l h=>by
  unfold XI at h;cases h
 | k+1,(y,x::l),h=>by
  unfold XI;simp only;cases ht:KD y x with
  |none=>
   intro z r e a q;simp only[qM]at e;obtain⟨rfl,_⟩:=e;exact y5p ht a q
  |some i=>
   refine znr k (vj y i,l) ?_;simp only[qk]at h⊢;omega
theorem bg(s:vr):∃l,Run s l (tS s) 0∧l.length+(tS s).2.length=s.2.length:=Iq _ s
theorem UA(s:vr):nY (tS s):=znr _ s (ql _)
def FR(R:List js)(p:List js):List js:=p.filter fun z => !hasB R z
theorem lQ{y:vl}{R:List js}(a:Nat):pl (y.map (FR R)) a=FR R (pl y a):=by
 unfold pl;rw[qC,qC,yG];cases y[a]?<;>rfl
theorem ydm{y:vl}(a:Nat):y.set a (pl y a)=y:=by
 rcases z7 a y.length with h|h
 ·obtain⟨l1,l2,h1,_,h3⟩:=mM h;rw[h3];exact h1.symm
 ·exact List.set_eq_of_length_le h
theorem PM{R q:List js}{x:js}:FR R (q++[x])=FR R q++(if hasB R x=true then[]else[x]):=by
 unfold FR;rw[List.filter_append];congr 1
 cases h:hasB R x<;>simp[h]
theorem Un{y:vl}{R q:List js}{x:js}{a:Nat}(h:pl y a=q++[x])(hx:hasB R x=true):(vj y a).map (FR R)=y.map (FR R):=by
 have e:FR R q=pl (y.map (FR R)) a:=by rw[lQ,h,PM,qH hx,qL]
 unfold vj;rw[List.map_set,h,yJ,e,ydm]
theorem y9g{y:vl}{R q:List js}{x:js}{a:Nat}(h:pl y a=q++[x])(hx:hasB R x=false):(vj y a).map (FR R)=vj (y.map (FR R)) a∧pl (y.map (FR R)) a=FR R q++[x]:=by
 have e:pl (y.map (FR R)) a=FR R q++[x]:=by rw[lQ,h,PM,qT (by rw[hx];exact yg)]
 refine⟨?_,e⟩;unfold vj;rw[List.map_set,h,yJ,e,yJ]
theorem Ld{y:vl}{R:List js}{x:js}{b:Nat}:(Xz y b x).map (FR R)=if hasB R x=true then y.map (FR R)else Xz (y.map (FR R)) b x:=by
 unfold Xz;rw[List.map_set,PM,lQ];by_cases hx:hasB R x=true
 ·rw[qH hx,qH hx,qL,←lQ,ydm]
 ·rw[qT hx,qT hx]
theorem yb4{R p:List js}(h:∀z∈p,z∉R):FR R p=p:=by
 unfold FR;rw[List.filter_eq_self];intro z hz;cases e:hasB R z with
 |false=>rfl
 |true=>exact absurd (WZ.1 e) (h z hz)
theorem tj{y:vl}{R:List js}(h:∀z∈y.flatten,z∉R):y.map (FR R)=y:=by
 conv=>rhs;rw[←List.map_id y]
 refine kL fun p hp =>?_
 exact yb4 fun z hz=>h z (xy.2 ⟨p,hp,hz⟩)
theorem sE{R S p:List js}:FR S (FR R p)=FR (R++S) p:=by
 unfold FR;rw[List.filter_filter];congr 1
 funext z
 have:hasB (R++S) z=(hasB R z||hasB S z):=by unfold hasB;rw[List.any_append]
 rw[this];cases hasB R z<;>cases hasB S z<;>rfl
def zul(s t:vr):Prop:=∃R,s.2=R++t.2∧t.1=s.1.map (FR R)
theorem zul.refl(s:vr):zul s s:=⟨[],rfl,(tj fun z _ h=>by cases h).symm⟩
theorem yb0{s:vr}{y:vl}{l q:List js}{x:js}{i:Nat}(hn:s.1.flatten.Nodup)(h:zul s (y,x::l))(hp:pl y i=q++[x]):zul s (vj y i,l):=by
 obtain⟨R,h1,h2⟩:=h;simp only at h1 h2;refine⟨R++[x],by simp[h1],?_⟩;have hny:y.flatten.Nodup:=by
  rw[h2];have:(s.1.map (FR R)).flatten=s.1.flatten.filter fun z => !hasB R z:=by
   rw[List.filter_flatten];rfl
  rw[this];exact hn.filter _
 have ZF:=(mG hp).nodup hny;rw[z6]at ZF;have e1:(vj y i).map (FR [x])=vj y i:=tj fun z hz G3=>by
  rw[qE]at G3;exact ZF.1 (G3▸hz)
 show vj y i=_;rw[←e1,Un hp (WZ.2 (by simp)),h2,List.map_map];refine kL fun p _ =>?_
 exact sE
theorem UV{s:vr}(hn:s.1.flatten.Nodup):∀(k:Nat) (t:vr),zul s t→zul s (XI k t)
 |0,t,h=>h
 |k+1,(y,[]),h=>h
 | k+1,(y,x::l),h=>by
  unfold XI;simp only;cases ht:KD y x with
  |none=>exact h
  |some i=>
   obtain⟨q,hq⟩:=tc ht;exact UV hn k _ (yb0 hn h hq)
theorem yaz{names req:List js}{p:Nat}{s s' t:vr}{m:Int×Int}{c:Nat}(hr:req.Nodup)(hv:Vd names req p s)(ha:zul s t)(ht:nY t)(h:Stp s m s' c):
  zul s' t∨(c=1∧∃t1,Stp t m t1 1∧zul s' t1):=by
 obtain⟨R,h1,h2⟩:=ha;obtain⟨yt,lt⟩:=t;simp only at h1 h2;cases h with
 |@out y left q x a hp=>
  left;cases R with
  |nil=>
   exfalso;simp only[qP]at h1;have e:yt=y:=by rw[h2];exact tj fun z _ h=>by cases h
   exact ht x left h1.symm a q (by show pl yt a=_;rw[e];exact hp)
  |cons x' R=>
   simp only[qS,qM]at h1;obtain⟨rfl,h1⟩:=h1;refine⟨R,h1,?_⟩;have ZF:=(mG hp).nodup hv.nd;rw[z6]at ZF;show yt=(vj y a).map (FR R);rw[h2,←Un hp (R:=x::R) (WZ.2 (by simp))];refine kL fun z hz =>?_
   unfold FR;refine List.filter_congr fun u hu =>?_
   have ju:x≠u:=fun e=>ZF.1 (by rw[e];exact xy.2 ⟨z,hz,hu⟩)
   have:jO x u=false:=by
    cases e:jO x u with
    |false=>rfl
    |true=>exact absurd (Ft.1 e) ju
   show(!(jO x u||hasB R u))=!hasB R u;rw[this,yF]
 |@mv y left q x a b hp hb JO hl=>
  cases hx:hasB R x with
  |true=>
   left;refine⟨R,h1,?_⟩;show yt=(Xz (vj y a) b x).map (FR R);rw[Ld,qH hx,Un hp hx];exact h2
  |false=>
   right;obtain⟨k1,k2⟩:=y9g hp hx;refine⟨rfl,(Xz (vj yt a) b x,lt),?_,R,h1,?_⟩
   ·rw[h2];refine .mv k2 (by rw[zg];exact hb) JO ?_;rw[lQ];exact Nat.lt_of_le_of_lt (kx _ _) hl
   ·show Xz (vj yt a) b x=(Xz (vj y a) b x).map (FR R);rw[Ld,qT (by rw[hx];exact yg),k1,h2]
def fY(t t':vr):Prop:=∃m t1,Stp t m t1 1∧t'=tS t1
inductive TRun (t0:vr):vr→Nat→Prop
 |nil:TRun t0 t0 0
 |snoc {t t':vr} {k:Nat}:TRun t0 t k→fY t t'→TRun t0 t' (k+1)
theorem TRun.head{s t:vr}(h:fY s t):∀{u:vr} {k:Nat},TRun t u k→TRun s u (k+1):=by
 intro u k hk;induction hk with
 |nil=>exact .snoc .nil h
 |snoc _ h2 ih=>exact .snoc ih h2
theorem sim{names req:List js}{p:Nat}(hr:req.Nodup){s s':vr}{l:List (Int×Int)}{k:Nat}(h:Run s l s' k):∀{t:vr},Vd names req p s→s'.2=[]→zul s t→nY t→∃t' j,TRun t t' j∧j≤k∧t'.2=[]:=by
 induction h with
 |nil s=>
  intro t hv h0 ha ht;obtain⟨R,h1,_⟩:=ha;rw[h0]at h1;exact⟨t,0,.nil,ql _,(List.append_eq_nil_iff.1 h1.symm).2⟩
 |@cons s s1 s2 m l c k hs hl ih=>
  intro t hv h0 ha ht;have Q4:=hv.stp hr hs;rcases yaz hr hv ha ht hs with h1|⟨rfl,t1,h1,h2⟩
  ·obtain⟨t',j,g1,g2,g3⟩:=ih Q4 h0 h1 ht;exact⟨t',j,g1,by omega,g3⟩
  ·obtain⟨t',j,g1,g2,g3⟩:=ih Q4 h0 (UV Q4.nd _ _ h2) (UA t1);exact⟨t',j+1,g1.head ⟨m,t1,h1,rfl⟩,by omega,g3⟩
theorem cR{names req:List js}{p:Nat}(hr:req.Nodup){s s':vr}{l:List (Int×Int)}{k:Nat}(h:Run s l s' k)(hv:Vd names req p s)(h0:s'.2=[]):∃t' j,TRun (tS s) t' j∧j≤k∧t'.2=[]:=
 sim hr h hv h0 (UV hv.nd _ _ (zul.refl s)) (UA s)
structure Cx (names req:List js) (p:Nat):Prop where
 nl:names.length≤6
 nm:∀x∈names,Yl x=true
 rn:req.Nodup
 rs:∀x∈req,x∈names
 p4:p≤4
theorem Cx.rl{names req:List js}{p:Nat}(h:Cx names req p):req.length≤6:=
 ze (yX h.rn h.rs) h.nl
theorem L8{x:js}(h:Yl x=true):1≤x.size∧x.size≤12:=by
 unfold Yl at h;rw[qg,qI]at h;omega
theorem Vd.left_le{names req:List js}{p:Nat}(hc:Cx names req p){s:vr}(h:Vd names req p s):s.2.length≤6:=by
 rw[h.left];exact ze (kx _ _) hc.rl
theorem Vd.piles{names req:List js}{p:Nat}{s:vr}(h:Vd names req p s):∀q∈s.1,q.length≤6:=by
 intro q hq;obtain⟨a,ha,rfl⟩:=xh.1 hq;have:=h.small a;unfold pl at this;rw[qC,qr ha,qO]at this;exact this
theorem Vd.few{names req:List js}{p:Nat}(hc:Cx names req p){s:vr}(h:Vd names req p s):WE s.1 s.2:=by
 have hs:∀x∈s.1.flatten,x.size≤20:=fun x hx=>by have:=(L8 (hc.nm x (h.sub x hx))).2;omega
 refine⟨by have:=h.len;have:=hc.p4;omega,⟨by have:=h.left_le hc;omega,fun x hx=>hs x (h.lsub x hx)⟩,fun q hq=>⟨by have:=h.piles q hq;omega,fun x hx=>hs x (xy.2 ⟨q,hq,hx⟩)⟩⟩
abbrev wg(n:wC):vr:=(n.1,n.2.1)
theorem l6(y:vl)(a:Nat):jt [] y (a:Int)=pl y a:=rfl
theorem y4o{y:vl}{a:Nat}{q:List js}:QK y (a:Int) q=y.set a q:=rfl
theorem Ip{q:List js}{x:js}:(q++[x]).take ((q++[x]).length-1)=q:=by
 rw[qe,qj,kW,List.take_left'];rfl
theorem Lg{y:vl}{a:Nat}{q:List js}{x:js}(h:pl y a=q++[x]):V7 y ((a:Int),-1)=some (vj y a):=by
 unfold V7 vj;simp only[l6,h,Ip,y4o,yJ];rfl
theorem y4n{y:vl}{a b:Nat}{q:List js}{x:js}(h:pl y a=q++[x])(hb:b<y.length)(JO:a≠b)(hl:(pl y b).length≤1000):V7 y ((a:Int),(b:Int))=some (Xz (vj y a) b x):=by
 have e:jt ByteArray.empty (q++[x]) ((((q++[x]).length:Nat):Int)-1)=x:=by
  rw[qe,qj,show((q.length+1:Nat):Int)-1=(q.length:Int) by omega];exact Yx (post:=[])
 unfold V7;simp only[l6,h,Ip,y4o,e];have Qu:((b:Int) != -1)=true:=by rw[zP];omega
 have h1:pl (y.set a q) b=pl y b:=by rw[Sz (Gz h),qT (yL JO)]
 rw[Qu,qv,h1,Eb (by rw[qj];omega),qh];unfold Xz vj;rw[h,yJ,h1]
theorem PW{names req:List js}{p:Nat}(hc:Cx names req p){n:wC}{m:Int×Int}{s':vr}{c:Nat}(hv:Vd names req p (wg n))(hs:Stp (wg n) m s' c)(hm:n.2.2.1.length≤1000000)(hw:0≤n.2.2.2∧n.2.2.2≤4294967296):
  Ha n m=some (s'.1,s'.2,n.2.2.1++[m],n.2.2.2+(c:Int)):=by
 obtain⟨y,left,ms,wk⟩:=n;have jH:y.length=p:=hv.len;have pb:=hc.p4;have ZU:y.all (fun p=>decide (p.length≤999))=true:=by
  rw[qW];intro q hq;have:=hv.piles q hq;exact yE (by omega)
 unfold Ha gz;generalize Zd:wg (y,left,ms,wk)=st at hs;cases hs with
 |@out y' vZ q x a hp=>
  simp only[wg,qX]at Zd;obtain⟨rfl,rfl⟩:=Zd;have hlt:=Gz hp;simp only[l6,hp];rw[jJ (show(0:Int)≤(a:Int) by omega),jJ (show(a:Int)<(y.length:Int) by omega),jJ (show 0<(q++[x]).length by rw[qe,qj];omega),show((-1:Int) == -1)=true from rfl,qv,jJ (show 0<(x::vZ).length by simp),jJ (show y.length≤1000 by omega),ZU,jJ (show ms.length≤1000000 from hm)];simp only[kP,qv];rw[Lg hp,qh];simp
 |@mv y' vZ q x a b hp hb JO hl=>
  simp only[wg,qX]at Zd;obtain⟨rfl,rfl⟩:=Zd;have hlt:=Gz hp;have Qu:((b:Int) == -1)=false:=by rw[qU];omega
  have QU:((b:Int)!=(a:Int))=true:=by rw[zP];omega
  simp only[l6,hp];rw[jJ (show(0:Int)≤(a:Int) by omega),jJ (show(a:Int)<(y.length:Int) by omega),jJ (show 0<(q++[x]).length by rw[qe,qj];omega),Qu,qu,jJ (show(0:Int)≤(b:Int) by omega),jJ (show(b:Int)<(y.length:Int) by omega),QU,jJ (show y.length≤1000 by omega),ZU,jJ (show ms.length≤1000000 from hm)];simp only[kP,qv,qu];rw[y4n hp hb JO (by omega),qh,Qj (by simp only at hw;omega) (by simp only at hw;omega)];rfl
theorem Ly{names req:List js}{p:Nat}(hc:Cx names req p):∀(k:Nat) (n:wC),Vd names req p (wg n)→n.2.2.1.length+k≤1000000→0≤n.2.2.2∧n.2.2.2≤4294967296→
  ∃l,J4 k n=some ((XI k (wg n)).1,(XI k (wg n)).2,n.2.2.1++l,n.2.2.2)∧Run (wg n) l (XI k (wg n)) 0∧l.length+(XI k (wg n)).2.length=n.2.1.length
 |0,n,hv,hm,hw=>⟨[],by simp[J4,XI],.nil _,by simp[XI]⟩
 |k+1,(y,[],ms,wk),hv,hm,hw=>⟨[],by simp[J4,XI],.nil _,by simp[XI]⟩
 | k+1,(y,x::left,ms,wk),hv,hm,hw=>by
  unfold J4 XI;simp only;cases ht:KD y x with
  |none=>exact⟨[],by simp,.nil _,by simp⟩
  |some i=>
   obtain⟨q,hq⟩:=tc ht;have hs:Stp (y,x::left) ((i:Int),-1) (vj y i,left) 0 :=.out hq;have Jy:=PW hc hv hs (by simp only at hm⊢;omega) hw;have Vc:Vd names req p (wg (vj y i,left,ms++[((i:Int),-1)],wk+((0:Nat):Int))):=hv.stp hc.rn hs;obtain⟨l,h1,h2,h3⟩:=Ly hc k (vj y i,left,ms++[((i:Int),-1)],wk+((0:Nat):Int)) Vc (by simp only[qe,qj]at hm⊢;omega) (by simp only at hw⊢;omega);refine⟨((i:Int),-1)::l,?_,.cons hs h2,?_⟩
   ·show(Ha (y,x::left,ms,wk) ((i:Int),-1)).bind (fun t=>J4 k t)=_;rw[Jy,qh];refine h1.trans ?_;simp only[zM,List.singleton_append];rw[show wk+((0:Nat):Int)=wk by omega]
   ·have h3':l.length+(XI k (vj y i,left)).2.length=left.length:=h3;show l.length+1+(XI k (vj y i,left)).2.length=left.length+1;omega
theorem yb6{names req:List js}{p:Nat}(hc:Cx names req p){s:vr}(hv:Vd names req p s):Vo s.1=true:=by
 have jH:=hv.len;have pb:=hc.p4;unfold Vo;rw[jJ (show s.1.length≤1000 by omega),zJ,qW];intro q hq;have:=hv.piles q hq;exact yE (by omega)
theorem yba{names req:List js}{p:Nat}(hc:Cx names req p){n:wC}(hv:Vd names req p (wg n))(hm:n.2.2.1.length≤999990)(hw:0≤n.2.2.2∧n.2.2.2≤4294967296):
  ∃l,iL n=some ((tS (wg n)).1,(tS (wg n)).2,n.2.2.1++l,n.2.2.2)∧Run (wg n) l (tS (wg n)) 0∧l.length+(tS (wg n)).2.length=n.2.1.length:=by
 have hl:=hv.left_le hc;simp only at hl;unfold iL;rw[yb6 hc hv,jJ (show n.2.1.length≤1000 by omega)];simp only[kP,qv];exact Ly hc n.2.1.length n hv (by omega) hw
theorem yd4{names req:List js}{p:Nat}(hc:Cx names req p){s:vr}(hv:Vd names req p s):Bc s.1 s.2=some (Xd s.2 s.1):=y3h (hv.few hc)
theorem rS{names req:List js}{p:Nat}(hc:Cx names req p){s:vr}(hv:Vd names req p s):hS s≤6:=by
 have h1:hS s≤s.1.flatten.length:=by
  have:∀y:vl,hL s.2 y≤y.flatten.length:=by
   intro y;induction y with
   |nil=>exact ql _
   |cons q y ih=>
    unfold hL Xd at ih⊢;rw[xL,yk,qe,qe];have:=Tx s.2 q [];omega
  exact this s.1
 have h2:=yX hv.nd hv.sub;have:=hc.nl;omega
end Go.Lift
