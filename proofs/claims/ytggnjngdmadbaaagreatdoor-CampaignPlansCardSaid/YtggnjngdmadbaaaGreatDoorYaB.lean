/-
  Blocking slabs on both sides; the law holds of the plain functions.
-/
import Derived.Test.YtggnjngdmadbaaaGreatDoorYaA
set_option linter.all false
namespace Go.Lift
open Go
def QC{X:Type}(P:X→Bool):List X→Nat
 |[]=>0
 |x::r=>bif P x then 0 else QC P r+1
theorem y0l{X:Type}(P:X→Bool)(x:X)(r:List X):QC P (x::r)=bif P x then 0 else QC P r+1:=rfl
theorem PO{X:Type}(P:X→Bool):∀l:List X,QC P l≤l.length
 |[]=>ql _
 |x::r=>by
  have:=PO P r;unfold QC;cases P x
  ·rw[qu,qk];omega
  ·rw[qv];exact zz _
theorem mu{X:Type}(P:X→Bool):∀l:List X,l.any P=decide (QC P l<l.length)
 |[]=>rfl
 | x::r=>by
  have ih:=mu P r;unfold QC;rw[yH,qk];cases P x
  ·rw[qu,yF,ih];congr 1
   rw[eq_iff_iff];omega
  ·rw[qv,Bool.true_or,jJ (by omega)]
theorem Ui{X R:Type}{l:List X}{P:X→Bool}{F:Int→Option (Int⊕R)}{g:Nat→R}{e:R}
  (wI:∀(pre post:List X) (x:X),l=pre++x::post→F (pre.length:Int)=some (bif P x then .inr (g pre.length)else .inl ((pre.length+1:Nat):Int)))
  (Q2:F (l.length:Int)=some (.inr e)):vz F 0=some (if QC P l<l.length then g (QC P l)else e):=by
 refine KH (X:=X) (fun rest s=>∃pre,l=pre++rest∧s=(pre.length:Int)∧QC P l=pre.length+QC P rest) ?_ ?_ (l:=l) ⟨[],rfl,rfl,by simp⟩
 ·rintro x rest _ ⟨pre,h1,rfl,h2⟩;have jH:=congrArg List.length h1;rw[qe,qk]at jH;rw[wI pre rest x h1];rw[y0l]at h2;cases hx:P x with
  |true=>
   rw[hx,qv,yK]at h2;exact Or.inr (by rw[h2,qH (by omega)];rfl)
  |false=>
   rw[hx,qu]at h2;exact Or.inl ⟨_,rfl,pre++[x],by rw[h1];simp,by rw[qe,qj],by rw[h2,qe,qj];omega⟩
 ·rintro _ ⟨pre,h1,rfl,h2⟩;rw[qL]at h1;subst h1;rw[Q2,qT (by rw[h2];omega)]
def Bv(l:List js)(x:js):Int:=if QC (fun z=>jO z x) l<l.length then((QC (fun z=>jO z x) l:Nat):Int)else -1
theorem Tu{l:List js}{x:js}(h:l.length≤60000):jR l x=some (Bv l x):=by
 unfold jR Bv
 have hf:=Ui (l:=l) (P:=fun z=>jO z x) (R:=Unit⊕Int) (g:=fun k =>.inr (k:Int)) (e :=.inl ()) (F:=fun t=>
  bif decide (t<(l.length:Int))then
   chk (decide ((0:Int)≤t)&&decide (t<(l.length:Int))) (
    bif jO x (jt ByteArray.empty l t)then
     Option.map Sum.inr (Option.map Sum.inr (
      some t))
    else
     some (.inl (jv (t+1))))
  else
   some (.inr (.inl ()))) (fun pre post z hz=>by
  have jH:=congrArg List.length hz;rw[qe,qk]at jH;have hg:jt ByteArray.empty l (pre.length:Int)=z:=by rw[hz];exact Yx
  rw[jJ (show(pre.length:Int)<(l.length:Int) by omega),qv,Zy (wX (jJ (by omega)) rfl),hg,Qj (by omega) (by omega),Uy x z];cases jO z x<;>rfl) (by rw[vG (show ¬(l.length:Int)<(l.length:Int) by omega),qu])
 rw[hf,qh];by_cases hlt:QC (fun z=>jO z x) l<l.length
 ·rw[qH hlt,qH hlt]
 ·rw[qT hlt,qT hlt]
theorem UU{l:List js}{x:js}(h:l.length≤60000):jM l x=some (hasB l x):=by
 unfold jM hasB;rw[Tu h,qh,mu];unfold Bv;by_cases hlt:QC (fun z=>jO z x) l<l.length
 ·rw[qH hlt,jJ hlt,jJ (by omega)]
 ·rw[qT hlt,vG hlt,vG (by omega)]
theorem zuk{s:List (List js)}{f:List js→Option Bool}{Q:List js→Bool}(h:s.length≤60000)(hf:∀p∈s,f p=some (Q p)):AL s f=some (s.any Q):=by
 unfold AL iP
 have hl:=Ui (l:=s) (P:=Q) (R:=Unit⊕Int) (g:=fun k =>.inr (k:Int)) (e :=.inl ()) (F:=fun t=>
  bif decide (t<(s.length:Int))then
   chk (decide ((0:Int)≤t)&&decide (t<(s.length:Int))) (
    (f (jt [] s t)).bind fun(jQ:Bool)=>
    bif jQ then
     Option.map Sum.inr (Option.map Sum.inr (
      some t))
    else
     some (.inl (jv (t+1))))
  else
   some (.inr (.inl ()))) (fun pre post z hz=>by
  have jH:=congrArg List.length hz;rw[qe,qk]at jH;have hg:jt [] s (pre.length:Int)=z:=by rw[hz];exact Yx
  rw[jJ (show(pre.length:Int)<(s.length:Int) by omega),qv,Zy (wX (jJ (by omega)) rfl),hg,hf z (by rw[hz];simp),qh,Qj (by omega) (by omega)];cases Q z<;>rfl) (by rw[vG (show ¬(s.length:Int)<(s.length:Int) by omega),qu])
 rw[hl,qh,mu];by_cases hlt:QC Q s<s.length
 ·rw[qH hlt,jJ hlt];show some (decide (((QC Q s:Nat):Int)≥0))=_;rw[jJ (by omega)]
 ·rw[qT hlt,vG hlt];rfl
theorem zpe{s:List js}{f:js→Option Bool}{Q:js→Bool}(h:s.length≤60000)(hf:∀p∈s,f p=some (Q p)):Be s f=some (s.any Q):=by
 unfold Be z24
 have hl:=Ui (l:=s) (P:=Q) (R:=Unit⊕Int) (g:=fun k =>.inr (k:Int)) (e :=.inl ()) (F:=fun t=>
  bif decide (t<(s.length:Int))then
   chk (decide ((0:Int)≤t)&&decide (t<(s.length:Int))) (
    (f (jt ByteArray.empty s t)).bind fun(jQ:Bool)=>
    bif jQ then
     Option.map Sum.inr (Option.map Sum.inr (
      some t))
    else
     some (.inl (jv (t+1))))
  else
   some (.inr (.inl ()))) (fun pre post z hz=>by
  have jH:=congrArg List.length hz;rw[qe,qk]at jH;have hg:jt ByteArray.empty s (pre.length:Int)=z:=by rw[hz];exact Yx
  rw[jJ (show(pre.length:Int)<(s.length:Int) by omega),qv,Zy (wX (jJ (by omega)) rfl),hg,hf z (by rw[hz];simp),qh,Qj (by omega) (by omega)];cases Q z<;>rfl) (by rw[vG (show ¬(s.length:Int)<(s.length:Int) by omega),qu])
 rw[hl,qh,mu];by_cases hlt:QC Q s<s.length
 ·rw[qH hlt,jJ hlt];show some (decide (((QC Q s:Nat):Int)≥0))=_;rw[jJ (by omega)]
 ·rw[qT hlt,vG hlt];rfl
def Jj(y:List (List js)):List js→List js→Int
 |_,[]=>0
 |pre,x::r=>bif !(y.any fun p=>hasB p x)then 6 else bif hasB pre x then 23 else Jj y (pre++[x]) r
theorem tt(y:List (List js))(pre:List js)(x:js)(r:List js):Jj y pre (x::r)=bif !(y.any fun p=>hasB p x)then 6 else bif hasB pre x then 23 else Jj y (pre++[x]) r:=rfl
def ZB(y:List (List js))(request:List js):Int:=Jj y [] request
theorem y73{y:List (List js)}{x:js}(hy:y.length≤6)(hp:∀p∈y,p.length≤8){request:List js}{i:Int}(hi:(decide ((0:Int)≤i)&&decide (i<(request.length:Int)))=true)(hx:jt ByteArray.empty request i=x):vz (S:=Bool×Int) (R:=Bool) (fun s=>
   let JW:Bool:=s.1
   let k:Int:=s.2
   bif decide (k<(y.length:Int))then
    (bif JW then some true else
     chk (decide ((0:Int)≤k)&&decide (k<(y.length:Int))) (
      chk (decide ((0:Int)≤i)&&decide (i<(request.length:Int))) (
       (C2 (jt [] y k) (jt ByteArray.empty request i)).bind fun(t:Bool)=>
       some t))).bind fun(c:Bool)=>
    some (.inl (c,jv (k+1)))
   else
    some (.inr JW)) (false,0)=some (y.any fun p=>hasB p x):=by
 rw[hi,hx];refine KH (X:=List js) (fun rest s=>∃pre b,y=pre++rest∧s=(b,(pre.length:Int))∧(y.any fun p=>hasB p x)=(b||rest.any fun p=>hasB p x)) ?_ ?_ (l:=y) ⟨[],false,rfl,rfl,by simp⟩
 ·rintro p rest _ ⟨pre,b,h1,rfl,h2⟩;have jH:=congrArg List.length h1;rw[qe,qk]at jH;have hg:jt [] y (pre.length:Int)=p:=by rw[h1];exact Yx
  refine Or.inl ⟨(b||hasB p x,((pre++[p]).length:Int)),?_,pre++[p],b||hasB p x,by rw[h1];simp,rfl,by rw[h2,yH,Bool.or_assoc]⟩;simp only[];rw[jJ (show(pre.length:Int)<(y.length:Int) by omega),qv,Zy (wX (jJ (by omega)) rfl),hg,WU,UG (by have:=hp p (by rw[h1];simp);omega),qh,Qj (by omega) (by omega),qe,qj];cases b<;>rfl
 ·rintro _ ⟨pre,b,h1,rfl,h2⟩;rw[qL]at h1;subst h1;simp only[];rw[vG (show ¬(y.length:Int)<(y.length:Int) by omega),qu,h2];simp
theorem T4{X:Type}{l pre post:List X}(h:l=pre++post):List.drop (Int.toNat 0) (List.take (Int.toNat (pre.length:Int)) l)=pre:=by
 rw[h,yP,List.take_left];rfl
theorem zpc{y:List (List js)}{request:List js}(h:WE y request):np y request=some (ZB y request):=by
 obtain⟨hy,⟨hr,_⟩,Zr⟩:=h;unfold np;have hl:∀F:Int→Option (Int⊕(Unit⊕Int)),(∀(pre post:List js) (x:js),request=pre++x::post→F (pre.length:Int)=bif !(y.any fun p=>hasB p x)then some (.inr (.inr 6))else bif hasB pre x then some (.inr (.inr 23))else some (.inl ((pre.length+1:Nat):Int)))→F (request.length:Int)=some (.inr (.inl ()))→
   vz F 0=some (bif ZB y request==0 then .inl ()else .inr (ZB y request)):=fun F h1 h2=>by
  refine KH (X:=js) (fun rest s=>∃pre,request=pre++rest∧s=(pre.length:Int)∧ZB y request=Jj y pre rest) ?_ ?_ (l:=request) ⟨[],rfl,rfl,rfl⟩
  ·rintro x rest _ ⟨pre,e1,rfl,e2⟩;rw[h1 pre rest x e1];rw[tt]at e2;cases e3:y.any fun p=>hasB p x with
   |false=>rw[e3]at e2;refine Or.inr ?_;rw[e2];rfl
   |true=>
    cases e4:hasB pre x with
    |true=>rw[e3,e4]at e2;refine Or.inr ?_;rw[e2];rfl
    |false=>
     rw[e3,e4]at e2;exact Or.inl ⟨_,rfl,pre++[x],by rw[e1];simp,by rw[qe,qj],e2⟩
  ·rintro _ ⟨pre,e1,rfl,e2⟩;rw[qL]at e1;subst e1;rw[h2,e2];rfl
 rw[hl]
 ·rw[qh];cases e:ZB y request==0 with
  |true=>
   have:ZB y request=0:=by simpa using e
   rw[this];rfl
  |false=>rfl
 ·intro pre post x hx;have jH:=congrArg List.length hx;rw[qe,qk]at jH;have hg:jt ByteArray.empty request (pre.length:Int)=x:=by rw[hx];exact Yx
  have wy:(decide ((0:Int)≤(pre.length:Int))&&decide ((pre.length:Int)<(request.length:Int)))=true:=wX (jJ (by omega)) (jJ (by omega));have hf:=y73 (x:=x) hy (fun p hp=>(Zr p hp).1) wy hg;simp only[]at hf;simp only[];have c1:(decide ((0:Int)≤0)&&decide ((0:Int)≤(pre.length:Int))&&decide ((pre.length:Int)≤(request.length:Int)))=true:=wX (wX rfl (jJ (by omega))) (jJ (by omega));rw[hf,wy,c1,jJ (show(pre.length:Int)<(request.length:Int) by omega),qv,qh,hg,T4 (show request=pre++(x::post) from hx),UG (by omega),Qj (by omega) (by omega),WU,WU,qh];cases y.any fun p=>hasB p x with
  |false=>rfl
  |true=>cases hasB pre x<;>rfl
 ·rw[vG (show ¬(request.length:Int)<(request.length:Int) by omega),qu]
theorem uo{y:List (List js)}{request:List js}(h:WE y request):C7 y request=some (bif (Ki y).2 !=0 then([],(Ki y).2)else bif ZB y request==0 then(y,0)else([],ZB y request)):=by
 have hF:=h;obtain⟨hy,⟨hr,_⟩,Zr⟩:=h;unfold C7;rw[y27 hF,qh];cases he:(Ki y).2 !=0 with
 |true=>rfl
 |false=>
  rw[qu,qu];have hl:∀F:Int→Option (Int⊕(Unit⊕(List (List js)×Int))),(∀(pre post:List js) (x:js),request=pre++x::post→F (pre.length:Int)=bif !(y.any fun p=>hasB p x)then some (.inr (.inr ([],6)))else bif hasB pre x then some (.inr (.inr ([],23)))else some (.inl ((pre.length+1:Nat):Int)))→F (request.length:Int)=some (.inr (.inl ()))→
    vz F 0=some (bif ZB y request==0 then .inl ()else .inr ([],ZB y request)):=fun F h1 h2=>by
   refine KH (X:=js) (fun rest s=>∃pre,request=pre++rest∧s=(pre.length:Int)∧ZB y request=Jj y pre rest) ?_ ?_ (l:=request) ⟨[],rfl,rfl,rfl⟩
   ·rintro x rest _ ⟨pre,e1,rfl,e2⟩;rw[h1 pre rest x e1];rw[tt]at e2;cases e3:y.any fun p=>hasB p x with
    |false=>rw[e3]at e2;refine Or.inr ?_;rw[e2];rfl
    |true=>
     cases e4:hasB pre x with
     |true=>rw[e3,e4]at e2;refine Or.inr ?_;rw[e2];rfl
     |false=>
      rw[e3,e4]at e2;exact Or.inl ⟨_,rfl,pre++[x],by rw[e1];simp,by rw[qe,qj],e2⟩
   ·rintro _ ⟨pre,e1,rfl,e2⟩;rw[qL]at e1;subst e1;rw[h2,e2];rfl
  rw[hl]
  ·rw[qh];cases e:ZB y request==0<;>rfl
  ·intro pre post x hx;have jH:=congrArg List.length hx;rw[qe,qk]at jH;have hg:jt ByteArray.empty request (pre.length:Int)=x:=by rw[hx];exact Yx
   have hc:AL y (fun z=>ck z x)=some (y.any fun p=>hasB p x):=zuk (by omega) fun p hp=>by
    unfold ck;rw[UU (by have:=(Zr p hp).1;omega)];rfl
   have wy:(decide ((0:Int)≤(pre.length:Int))&&decide ((pre.length:Int)<(request.length:Int)))=true:=wX (jJ (by omega)) (jJ (by omega));have c1:(decide ((0:Int)≤0)&&decide ((0:Int)≤(pre.length:Int))&&decide ((pre.length:Int)≤(request.length:Int)))=true:=wX (wX rfl (jJ (by omega))) (jJ (by omega));simp only[];rw[wy,c1,hg,hc,jJ (show(pre.length:Int)<(request.length:Int) by omega),qv,WU,qh,Ja,qh,T4 (show request=pre++(x::post) from hx),WU,UU (by omega),qh,Ja,qh,CR (by simp),qh,Qj (by omega) (by omega)];cases y.any fun p=>hasB p x with
   |false=>cases hasB pre x<;>rfl
   |true=>cases hasB pre x<;>rfl
  ·rw[vG (show ¬(request.length:Int)<(request.length:Int) by omega),qu]
def bd(request:List js)(x:js):Nat:=QC (fun z=>jO z x) request
def Zb(request:List js)(name below:js):Bool:=decide ((bd request below:Int)<(bd request name:Int))
theorem y0v{request:List js}(h:request.length≤10)(below name:js):Bd below request name=some (Zb request name below):=by
 unfold Bd iC Zb bd;rw[UU (by omega),qh,Tu (by omega),qh,Tu (by omega)];unfold hasB Bv;rw[mu];have h1:=PO (fun z=>jO z below) request;have h2:=PO (fun z=>jO z name) request;generalize QC (fun z=>jO z below) request=a at*;generalize QC (fun z=>jO z name) request=b at*;by_cases ha:a<request.length
 ·rw[jJ ha,qv,qH ha];by_cases hb:b<request.length
  ·rw[qH hb,vG (show ¬(b:Int)<0 by omega),qu,qh,qh];simp only[qh]
  ·rw[qT hb,jJ (show(-1:Int)<0 by omega),qv,jJ (show(a:Int)<(b:Int) by omega)];rfl
 ·rw[vG ha,qu,vG (show ¬(a:Int)<(b:Int) by omega)];rfl
def ZX(request:List js):List js→List js→List js
 |_,[]=>[]
 |pre,x::r=>(bif pre.any (Zb request x)then[x]else[])++ZX request (pre++[x]) r
theorem Au(request pre:List js)(x:js)(r:List js):ZX request pre (x::r)=(bif pre.any (Zb request x)then[x]else[])++ZX request (pre++[x]) r:=rfl
theorem Tx(request:List js):∀(r pre:List js),(ZX request pre r).length≤r.length
 |[],_=>ql _
 |x::r,pre=>by
  have:=Tx request r (pre++[x]);rw[Au,qe,qk];cases pre.any (Zb request x)
  ·rw[qu,qR];omega
  ·rw[qv,qj];omega
theorem ybt{y:List (List js)}{request:List js}(hr:request.length≤10){t:Int}{p:List js}(hp:jt [] y t=p)(hl:p.length≤8){out:List js}(ho:out.length≤100):
  vz (S:=(List js)×Int) (R:=(List js)) (fun Qq=>
    let wh:(List js):=Qq.1
    let jQ:Int:=Qq.2
    bif decide (jQ<(List.length (jt [] y t):Int))then
     chk (decide ((0:Int)≤jQ)&&decide (jQ<(List.length (jt [] y t):Int))) (
      let name:js:=jt ByteArray.empty (jt [] y t) jQ
      chk (decide ((0:Int)≤0)&&decide ((0:Int)≤jQ)&&decide (jQ≤(List.length (jt [] y t):Int))) (
       (Be (List.drop (Int.toNat 0) (List.take (Int.toNat jQ) (jt [] y t))) (fun x=>Bd x request name)).bind fun(vb:Bool)=>
       (bif vb then
        (app wh [name]).bind fun(vw:List js)=>
        some vw
       else
        some wh).bind fun(Y4:(List js))=>
       some (.inl (Y4,jv (jQ+1)))))
    else
     some (.inr wh)) (out,0)=some (out++ZX request [] p):=by
 rw[hp];refine KH (X:=js) (fun rest s=>∃pre o,p=pre++rest∧s=(o,(pre.length:Int))∧o.length≤100+pre.length∧out++ZX request [] p=o++ZX request pre rest) ?_ ?_ (l:=p) ⟨[],out,rfl,rfl,by simpa using ho,rfl⟩
 ·rintro x rest _ ⟨pre,o,h1,rfl,h3,h2⟩;have jH:=congrArg List.length h1;rw[qe,qk]at jH;have hg:jt ByteArray.empty p (pre.length:Int)=x:=by rw[h1];exact Yx
  have wy:(decide ((0:Int)≤(pre.length:Int))&&decide ((pre.length:Int)<(p.length:Int)))=true:=wX (jJ (by omega)) (jJ (by omega));have c1:(decide ((0:Int)≤0)&&decide ((0:Int)≤(pre.length:Int))&&decide ((pre.length:Int)≤(p.length:Int)))=true:=wX (wX rfl (jJ (by omega))) (jJ (by omega));have hc:Be pre (fun z=>Bd z request x)=some (pre.any (Zb request x)):=zpe (by omega) fun z hz=>y0v hr z x
  simp only[];rw[wy,c1,jJ (show(pre.length:Int)<(p.length:Int) by omega),qv,WU,WU,hg,T4 (show p=pre++(x::rest) from h1),hc,qh,Eb (by rw[qj];omega),Qj (by omega) (by omega)];rw[Au]at h2;cases hq:pre.any (Zb request x)with
  |true=>
   rw[hq,qv]at h2;exact Or.inl ⟨(o++[x],((pre.length+1:Nat):Int)),rfl,pre++[x],o++[x],by rw[h1];simp,by rw[qe,qj],by rw[qe,qe,qj];omega,by rw[h2];simp⟩
  |false=>
   rw[hq,qu]at h2;exact Or.inl ⟨(o,((pre.length+1:Nat):Int)),rfl,pre++[x],o,by rw[h1];simp,by rw[qe,qj],by rw[qe,qj];omega,by rw[h2];simp⟩
 ·rintro _ ⟨pre,o,h1,rfl,h3,h2⟩;rw[qL]at h1;subst h1;simp only[];rw[vG (show ¬(p.length:Int)<(p.length:Int) by omega),qu,h2];show _=some (Sum.inr (o++[]));rw[qL]
def Xd(request:List js)(y:List (List js)):List js:=y.flatMap (ZX request [])
theorem y5c{request:List js}:∀{y:List (List js)},(∀p∈y,p.length≤8)→(Xd request y).length≤8*y.length
 |[],_=>ql _
 |p::y,h=>by
  have h1:=y5c (request:=request) (y:=y) fun q hq=>h q (qo _ hq)
  have h2:=Tx request p [];have h3:=h p zR;unfold Xd at h1⊢;rw[xL,qe,qk];omega
theorem y63{y:List (List js)}{request:List js}(hy:y.length≤6)(hp:∀p∈y,p.length≤8){F:(List js)×Int→Option (((List js)×Int)⊕List js)}
  (h1:∀(pre post:List (List js)) (p:List js) (out:List js),y=pre++p::post→out.length≤100→F (out,(pre.length:Int))=some (.inl (out++ZX request [] p,((pre.length+1:Nat):Int)))) (h2:∀out,F (out,(y.length:Int))=some (.inr out)):vz F ([],0)=some (Xd request y):=by
 refine KH (X:=List js) (fun rest s=>∃pre,y=pre++rest∧s=(Xd request pre,(pre.length:Int))) ?_ ?_ (l:=y) ⟨[],rfl,rfl⟩
 ·rintro p rest _ ⟨pre,e1,rfl⟩;have jH:=congrArg List.length e1;rw[qe,qk]at jH;have hb:=y5c (request:=request) (y:=pre) fun q hq=>hp q (by rw[e1];exact q8 _ hq)
  refine Or.inl ⟨_,h1 pre rest p _ e1 (by omega),pre++[p],by rw[e1];simp,?_⟩;unfold Xd;rw[List.flatMap_append,qe,qj];simp
 ·rintro _ ⟨pre,e1,rfl⟩;rw[qL]at e1;subst e1;rw[h2]
theorem y3h{y:List (List js)}{request:List js}(h:WE y request):Bc y request=some (Xd request y):=by
 obtain⟨hy,⟨hr,_⟩,Zr⟩:=h;unfold Bc;rw[y63 (request:=request) hy (fun p hp=>(Zr p hp).1)]
 ·rfl
 ·intro pre post p out hx ho;have jH:=congrArg List.length hx;rw[qe,qk]at jH;have hg:jt [] y (pre.length:Int)=p:=by rw[hx];exact Yx
  have hb:=ybt (request:=request) hr hg (Zr p (by rw[hx];simp)).1 ho;simp only[]at hb⊢;rw[hb,jJ (show(pre.length:Int)<(y.length:Int) by omega),qv,Zy (wX (jJ (by omega)) rfl),qh,Qj (by omega) (by omega)];rfl
 ·intro out;simp only[];rw[vG (show ¬(y.length:Int)<(y.length:Int) by omega),qu]
end Go.Lift
