/-
  Few piles, their copies, moves on both sides.
-/
import Derived.Test.YtggnjngdmadbaaaGreatDoorYaF
import Derived.Test.YtggnjngdmadbaaaGreatDoorPlainB
set_option linter.all false
namespace Go.Lift
open Go
def GD(l:List js)(most:Nat):Bool:=decide (l.length≤most)&&l.all fun x=>decide (x.size≤20)
theorem y4k(l:List js){most:Nat}(hm:most≤1000):CS l (most:Int)=some (GD l most):=by
 unfold CS GD;by_cases h:l.length≤most
 ·rw [vG (show ¬(l.length:Int)>(most:Int) by omega),qu,jJ h,zJ]
  have hl:vz (S:=Int) (R:=(Unit)⊕(Bool)) (fun i=>
   bif decide (i<(l.length:Int))then
    chk (decide ((0:Int)≤i)&&decide (i<(l.length:Int))) (
     bif decide ((ByteArray.size (jt ByteArray.empty l i):Int)>20)then
      Option.map Sum.inr (Option.map Sum.inr (
       some false))
     else
      some (.inl (jv (i+1))))
   else
    some (.inr (.inl ()))) 0=some (bif l.all (fun x=>decide (x.size≤20))then .inl ()else .inr false):=by
   refine KH (X:=js) (fun rest s=>∃pre,l=pre++rest∧s=(pre.length:Int)∧l.all (fun x=>decide (x.size≤20))=rest.all (fun x=>decide (x.size≤20))) ?_ ?_ (l:=l) ⟨[],rfl,rfl,rfl⟩
   ·rintro x rest _ ⟨pre,h1,rfl,h2⟩;have jH:=congrArg List.length h1;rw[qe,qk]at jH;have hg:jt ByteArray.empty l (pre.length:Int)=x:=by rw[h1];exact Yx
    rw[jJ (show(pre.length:Int)<(l.length:Int) by omega),qv,Zy (wX (jJ (by omega)) rfl),hg];by_cases hx:x.size≤20
    ·refine Or.inl ⟨((pre++[x]).length:Int),?_,pre++[x],by rw[h1];simp,rfl,?_⟩
     ·rw[vG (show ¬(x.size:Int)>20 by omega),qu,Qj (by omega) (by omega),qe,qj];rfl
     ·rw[h2,kr,jJ hx,zJ]
    ·refine Or.inr ?_;rw[jJ (show(x.size:Int)>20 by omega),qv,h2,kr,vG hx,zS];rfl
   ·rintro _ ⟨pre,h1,rfl,h2⟩;rw[qL]at h1;subst h1;rw[vG (show ¬(l.length:Int)<(l.length:Int) by omega),qu,h2];rfl
  rw[hl,qh];cases l.all (fun x=>decide (x.size≤20))<;>rfl
 ·rw[jJ (show(l.length:Int)>(most:Int) by omega),qv,vG h];rfl
def DV(y:List (List js))(request:List js):Bool:=(decide (y.length≤6)&&GD request 10)&&y.all fun p=>GD p 8
theorem y35(y:List (List js))(request:List js):mY y request=some (DV y request):=by
 unfold mY DV;rw[show CS request 10=some (GD request 10) from y4k request (most:=10) (by omega),qh];by_cases h:y.length≤6
 ·rw [vG (show ¬(y.length:Int)>6 by omega),qu,qh,jJ h,zJ];cases hr:GD request 10 with
  |false=>rfl
  |true=>
   rw[zi,qu,zJ];have hl:vz (S:=Int) (R:=(Unit)⊕(Bool)) (fun i=>
   bif decide (i<(y.length:Int))then
    chk (decide ((0:Int)≤i)&&decide (i<(y.length:Int))) (
     (CS (jt [] y i) 8).bind fun(jQ:Bool)=>
     bif !jQ then
      Option.map Sum.inr (Option.map Sum.inr (
       some false))
     else
      some (.inl (jv (i+1))))
   else
    some (.inr (.inl ()))) 0=some (bif y.all (fun p=>GD p 8)then .inl ()else .inr false):=by
    refine KH (X:=List js) (fun rest s=>∃pre,y=pre++rest∧s=(pre.length:Int)∧y.all (fun p=>GD p 8)=rest.all (fun p=>GD p 8)) ?_ ?_ (l:=y) ⟨[],rfl,rfl,rfl⟩
    ·rintro x rest _ ⟨pre,h1,rfl,h2⟩;have jH:=congrArg List.length h1;rw[qe,qk]at jH;have hg:jt [] y (pre.length:Int)=x:=by rw[h1];exact Yx
     rw[jJ (show(pre.length:Int)<(y.length:Int) by omega),qv,Zy (wX (jJ (by omega)) rfl),hg,show CS x 8=some (GD x 8) from y4k x (most:=8) (by omega),qh];cases hx:GD x 8 with
     |true=>
      refine Or.inl ⟨((pre++[x]).length:Int),?_,pre++[x],by rw[h1];simp,rfl,?_⟩
      ·rw[zi,qu,Qj (by omega) (by omega),qe,qj];rfl
      ·rw[h2,kr,hx,zJ]
     |false=>
      refine Or.inr ?_;rw[yn,qv,h2,kr,hx,zS];rfl
    ·rintro _ ⟨pre,h1,rfl,h2⟩;rw[qL]at h1;subst h1;rw[vG (show ¬(y.length:Int)<(y.length:Int) by omega),qu,h2];rfl
   rw[hl,qh];cases y.all (fun p=>GD p 8)<;>rfl
 ·rw[jJ (show(y.length:Int)>6 by omega),qv,qh,qv,vG h];rfl
def WE(y:List (List js))(request:List js):Prop:=y.length≤6∧(request.length≤10∧∀x∈request,x.size≤20)∧∀p∈y,p.length≤8∧∀x∈p,x.size≤20
theorem y4l{l:List js}{most:Nat}(h:GD l most=true):l.length≤most∧∀x∈l,x.size≤20:=by
 unfold GD at h;rw[qg,qI,qW]at h;exact⟨h.1,fun x hx=>xI (h.2 x hx)⟩
theorem fB{y:List (List js)}{request:List js}(h:DV y request=true):WE y request:=by
 unfold DV at h;rw[qg,qg,qI,qW]at h;exact⟨h.1.1,y4l h.1.2,fun p hp=>y4l (h.2 p hp)⟩
theorem I9{l:List js}(h:l.length≤1000):AH l=some l:=by
 unfold AH;rw[Eb (by simp;omega)];rfl
theorem y0o{y:List (List js)}(hy:y.length≤1000){g:List js→Option (List js)}(hg:∀p∈y,g p=some p):vz (S:=(List (List js))×Int) (R:=(List (List js))) (fun s=>
  let out:(List (List js)):=s.1
  let i:Int:=s.2
  bif decide (i<(y.length:Int))then
   chk (decide ((0:Int)≤i)&&decide (i<(y.length:Int))) (
    (g (jt [] y i)).bind fun(t:(List js))=>
    (app out [t]).bind fun(jQ:List (List js))=>
    some (.inl (jQ,jv (i+1))))
  else
   some (.inr out)) ([],0)=some y:=by
 refine KH (X:=List js) (fun rest s=>∃pre,y=pre++rest∧s=(pre,(pre.length:Int))) ?_ ?_ (l:=y) ⟨[],rfl,rfl⟩
 ·rintro x rest _ ⟨pre,h1,rfl⟩;have jH:=congrArg List.length h1;rw[qe,qk]at jH;have hx:jt [] y (pre.length:Int)=x:=by rw[h1];exact Yx
  refine Or.inl ⟨(pre++[x],((pre++[x]).length:Int)),?_,pre++[x],by rw[h1];simp,rfl⟩;simp only[];rw[jJ (show(pre.length:Int)<(y.length:Int) by omega),qv,Zy (wX (jJ (by omega)) rfl),hx,hg x (by rw[h1];simp),qh,Eb (by rw[qj];omega),qh,Qj (by omega) (by omega),qe,qj];rfl
 ·rintro _ ⟨pre,h1,rfl⟩;rw[qL]at h1;subst h1;simp only[];rw[vG (show ¬(y.length:Int)<(y.length:Int) by omega),qu]
theorem Ir{y:List (List js)}{request:List js}(h:WE y request):AE y=some y:=by
 unfold AE;rw[y0o (by have:=h.1;omega) (fun p hp=>I9 (by have:=(h.2.2 p hp).1;omega)),qh]
theorem ycy{y:List (List js)}{request:List js}(h:WE y request):ca y=some y:=by
 unfold ca;rw[y0o (by have:=h.1;omega) (fun p hp=>by
  unfold slices_Clone_string;rw[Eb (by have:=(h.2.2 p hp).1;simp;omega)];rfl),qh]
theorem Uy(a b:js):jO a b=jO b a:=by
 unfold jO;exact kn.2 ⟨fun h=>by rw[yo]at h⊢;exact h.symm,fun h=>by rw[yo]at h⊢;exact h.symm⟩
def hasB(l:List js)(x:js):Bool:=l.any fun z=>jO z x
theorem UG{l:List js}{x:js}(hl:l.length≤60000):C2 l x=some (hasB l x):=by
 unfold C2
 have h:vz (S:=Int) (R:=(Unit)⊕(Bool)) (fun i=>
  bif decide (i<(l.length:Int))then
   chk (decide ((0:Int)≤i)&&decide (i<(l.length:Int))) (
    bif jO (jt ByteArray.empty l i) x then
     Option.map Sum.inr (Option.map Sum.inr (
      some true))
    else
     some (.inl (jv (i+1))))
  else
   some (.inr (.inl ()))) 0=some (bif hasB l x then .inr true else .inl ()):=by
  unfold hasB;refine KH (X:=js) (fun rest s=>∃pre,l=pre++rest∧s=(pre.length:Int)∧l.any (fun z=>jO z x)=rest.any (fun z=>jO z x)) ?_ ?_ (l:=l) ⟨[],rfl,rfl,rfl⟩
  ·rintro z rest _ ⟨pre,h1,rfl,h2⟩;have jH:=congrArg List.length h1;rw[qe,qk]at jH;have hg:jt ByteArray.empty l (pre.length:Int)=z:=by rw[h1];exact Yx
   rw[jJ (show(pre.length:Int)<(l.length:Int) by omega),qv,Zy (wX (jJ (by omega)) rfl),hg];cases hx:jO z x with
   |false=>
    refine Or.inl ⟨((pre++[z]).length:Int),?_,pre++[z],by rw[h1];simp,rfl,?_⟩
    ·rw[qu,Qj (by omega) (by omega),qe,qj];rfl
    ·rw[h2,yH,hx,yF]
   |true=>
    refine Or.inr ?_;rw[qv,h2,yH,hx,Bool.true_or];rfl
  ·rintro _ ⟨pre,h1,rfl,h2⟩;rw[qL]at h1;subst h1;rw[vG (show ¬(l.length:Int)<(l.length:Int) by omega),qu,h2];rfl
 rw[h,qh];cases hasB l x<;>rfl
def mp(all:List js):List (js×Bool):=all.map fun z=>(z,true)
theorem yf9(all:List js)(x:js):wK .str .bool (mp all) x=hasB all x:=by
 unfold wK mp hasB;induction all with
 |nil=>rfl
 |cons z all ih=>
  rw[zl,yH,yU];have e:Ty.eqb .str x (z,true).1=jO z x:=Uy x z;rw[e];cases jO z x with
  |true=>rfl
  |false=>rw[yF,←ih]
theorem y9e:∀{all:List js} {x:js},hasB all x=false→ZP .str .bool (mp all) x true=mp (all++[x])
 |[],x,_=>rfl
 |z::all,x,h=>by
  unfold hasB at h;rw[yH,zX]at h;show(bif jO x z then(z,true)::mp all else(z,true)::ZP .str .bool (mp all) x true)=(z,true)::mp (all++[x]);rw[Uy,h.1,qu,y9e h.2]
theorem dy(all:List js):(mp all).length=all.length:=by unfold mp;rw[zg]
def Xy(all:List js):List js→List js⊕Int
 |[] =>.inl all
 |x::r=>bif !Yl x then .inr 4 else bif hasB all x then .inr 5 else Xy (all++[x]) r
theorem mW(all:List js)(x:js)(r:List js):Xy all (x::r)=bif !Yl x then .inr 4 else bif hasB all x then .inr 5 else Xy (all++[x]) r:=rfl
theorem Lk{vy:List js}:∀{p:List js} {all:List js},Xy all p = .inl vy→vy.length=all.length+p.length
 |[],all,h=>by unfold Xy at h;injection h with h;rw[h];rfl
 | x::r,all,h=>by
  unfold Xy at h;cases h1:Yl x with
  |false=>rw[h1]at h;cases h
  |true=>
   cases h2:hasB all x with
   |true=>rw[h1,h2]at h;cases h
   |false=>
    rw[h1,h2]at h;have:=Lk (p:=r) (all:=all++[x]) h;rw[qe,qj]at this;rw[this,qk];omega
def J1:Nat→List js→List (List js)→List js⊕(Int×Int)
 |_,all,[] =>.inl all
 |i,all,p::r=>bif decide ((p.length:Int)>6)then .inr ((i:Int),8)else match Xy all p with
  |.inl vy=>J1 (i+1) vy r
  |.inr e =>.inr ((i:Int),e)
theorem mX(i:Nat)(all p:List js)(r:List (List js)):J1 i all (p::r)=bif decide ((p.length:Int)>6)then .inr ((i:Int),8)else match Xy all p with
 |.inl vy=>J1 (i+1) vy r
 |.inr e =>.inr ((i:Int),e):=rfl
def Ki(y:List (List js)):Int×Int:=bif (y.length:Int)==0 then(0,10)else bif decide ((y.length:Int)>4)then(0,8)else match J1 0 [] y with
 |.inl all=>bif decide ((all.length:Int)>8)then(0,8)else(0,0)
 |.inr e=>e
theorem y8z{y:List (List js)}{t3:Int}{p:List js}(hp:jt [] y t3=p)(hl:p.length≤8)(hs:∀x∈p,x.size≤20)(all:List js):
  vz (S := Int×(List (js×Bool))) (R:=((List (js×Bool)))⊕((Int×(List (js×Bool)))⊕(((List (js×Bool)))⊕(Int×Int)))) (fun Qq=>
     let wD:Int:=Qq.1
     let Qs:(List (js×Bool)):=Qq.2
     bif decide (wD<(List.length (jt [] y t3):Int))then
      chk (decide ((0:Int)≤wD)&&decide (wD<(List.length (jt [] y t3):Int))) (
       let name:js:=jt ByteArray.empty (jt [] y t3) wD
       (GU name).bind fun(Vz:Bool)=>
       (Z1 Vz 4).bind fun(HU:Int)=>
       (Z1 (!(wK .str .bool Qs name)) 5).bind fun(Er:Int)=>
       (Jb [HU,Er]).bind fun(YZ:Int)=>
       bif (YZ !=0)then
        Option.map Sum.inr (Option.map Sum.inr (
         Option.map Sum.inr (Option.map Sum.inr (
          some (t3,YZ)))))
       else
        let VA:(List (js×Bool)):=ZP .str .bool Qs name true
        some (.inl (jv (wD+1),VA)))
     else
      some (.inr (.inl Qs))) (0,mp all)=some (match Xy all p with |.inl vy =>.inl (mp vy) |.inr e =>.inr (.inr (.inr (t3,e)))):=by
 rw[hp];refine KH (X:=js) (fun rest s=>∃pre vy,p=pre++rest∧s=((pre.length:Int),mp vy)∧Xy all p=Xy vy rest) ?_ ?_ (l:=p) ⟨[],all,rfl,rfl,rfl⟩
 ·rintro x rest _ ⟨pre,vy,h1,rfl,h2⟩;have jH:=congrArg List.length h1;rw[qe,qk]at jH;have hg:jt ByteArray.empty p (pre.length:Int)=x:=by rw[h1];exact Yx
  have hx:=hs x (by rw[h1];simp);simp only[];rw[jJ (show(pre.length:Int)<(p.length:Int) by omega),qv,Zy (wX (jJ (by omega)) rfl),hg,y9s (by omega),qh,Ja,qh,Ja,qh,yf9,CR (by simp),qh];rw[mW]at h2;cases hn:Yl x with
  |false=>
   rw[hn]at h2;refine Or.inr ?_;rw[h2];cases hasB vy x<;>rfl
  |true=>
   cases hh:hasB vy x with
   |true=>
    rw[hn,hh]at h2;refine Or.inr ?_;rw[h2];rfl
   |false=>
    rw[hn,hh]at h2;refine Or.inl ⟨(((pre++[x]).length:Int),mp (vy++[x])),?_,pre++[x],vy++[x],by rw[h1];simp,rfl,h2⟩;show some (Sum.inl (jv ((pre.length:Int)+1),ZP .str .bool (mp vy) x true))=_;rw[y9e hh,Qj (by omega) (by omega),qe,qj];rfl
 ·rintro _ ⟨pre,vy,h1,rfl,h2⟩;rw[qL]at h1;subst h1;simp only[];rw[vG (show ¬(p.length:Int)<(p.length:Int) by omega),qu,h2];rfl
theorem Ra{y:List (List js)}{request:List js}(h:WE y request):AJ y=some (Ki y):=by
 obtain⟨hy,_,Zr⟩:=h;unfold AJ Ki;rw[Ja,qh,Ja,qh,CR (by simp),qh];by_cases h0:y.length=0
 ·rw[h0];rfl
 ·rw [show((y.length:Int)==0)=false by rw[qU];omega,qu,jJ (show(y.length:Int)>0 by omega)];by_cases h4:y.length>4
  ·rw[jJ (show(y.length:Int)>4 by omega),qv,vG (show ¬(y.length:Int)≤4 by omega)];rfl
  ·rw [vG (show ¬(y.length:Int)>4 by omega),qu,jJ (show(y.length:Int)≤4 by omega)];rw[show(J3 [if(true=true)then(0:Int)else 10,if(true=true)then(0:Int)else 8]!=0)=false from rfl,qu];have hl:∀F:Int×(List (js×Bool))→Option ((Int×(List (js×Bool)))⊕(((List (js×Bool)))⊕(Int×Int))),
     (∀(pre rest:List (List js)) (p:List js) (all:List js),y=pre++p::rest→F ((pre.length:Int),mp all)=bif decide ((p.length:Int)>6)then some (.inr (.inr ((pre.length:Int),8)))else match Xy all p with |.inl vy=>some (.inl (((pre.length+1:Nat):Int),mp vy)) |.inr e=>some (.inr (.inr ((pre.length:Int),e))))→
     (∀all:List js,F ((y.length:Int),mp all)=some (.inr (.inl (mp all))))→vz F (0,mp [])=some (match J1 0 [] y with |.inl all =>.inl (mp all) |.inr e =>.inr e):=fun F h1 h2=>by
    refine KH (X:=List js) (fun rest s=>∃pre all,y=pre++rest∧s=((pre.length:Int),mp all)∧J1 0 [] y=J1 pre.length all rest) ?_ ?_ (l:=y) ⟨[],[],rfl,rfl,rfl⟩
    ·rintro p rest _ ⟨pre,all,e1,rfl,e2⟩;rw[h1 pre rest p all e1];rw[mX]at e2;cases e3:decide ((p.length:Int)>6)with
     |true=>rw[e3]at e2;refine Or.inr ?_;rw[qv];rw[e2];rfl
     |false=>
      rw[e3,qu]at e2;rw[qu];cases e4:Xy all p with
      |inl vy=>
       rw[e4]at e2;exact Or.inl ⟨_,rfl,pre++[p],vy,by rw[e1];simp,by rw[qe,qj],by rw[qe,qj];exact e2⟩
      |inr e=>rw[e4]at e2;refine Or.inr ?_;rw[e2]
    ·rintro _ ⟨pre,all,e1,rfl,e2⟩;rw[qL]at e1;subst e1;rw[h2 all,e2];rfl
   rw[show([]:List (js×Bool))=mp [] from rfl,hl]
   ·rw[qh];cases e:J1 0 [] y with
    |inr z=>rfl
    |inl all=>
     simp only[];rw[Ja,qh,dy];by_cases h8:(all.length:Int)>8
     ·rw[jJ h8,vG (show ¬(all.length:Int)≤8 by omega)];rfl
     ·rw[vG h8,jJ (show(all.length:Int)≤8 by omega)];rfl
   ·intro pre rest p all e1;have jH:=congrArg List.length e1;rw[qe,qk]at jH;have hg:jt [] y (pre.length:Int)=p:=by rw[e1];exact Yx
    have hp:=Zr p (by rw[e1];simp);have hc:=y8z (t3:=(pre.length:Int)) hg hp.1 hp.2 all;simp only[];rw[hc,hg,jJ (show(pre.length:Int)<(y.length:Int) by omega),qv,Zy (wX (jJ (by omega)) rfl)];cases decide ((p.length:Int)>6)with
    |true=>rfl
    |false=>
     rw[qu,qu,qh];cases Xy all p with
     |inl vy=>simp only[];rw[Qj (by omega) (by omega)];rfl
     |inr e=>rfl
   ·intro all;simp only[];rw[vG (show ¬(y.length:Int)<(y.length:Int) by omega),qu]
theorem ybs{y : List (List js)}{i:Int}(hi:(decide ((0:Int)≤i)&&decide (i<(y.length:Int)))=true){p:List js}(hp:jt [] y i=p)(hl:p.length≤8)(hs:∀x∈p,x.size≤20){all:List js}(ha:all.length≤1000):
  vz (S := (List js)×Int) (R:=((List js))⊕(((List js)×Int)⊕(((List js))⊕(Int×Int)))) (fun Qq=>
     let V2:(List js):=Qq.1
     let k:Int:=Qq.2
     chk (decide ((0:Int)≤i)&&decide (i<(y.length:Int))) (
      bif decide (k<(List.length (jt [] y i):Int))then
       chk (decide ((0:Int)≤i)&&decide (i<(y.length:Int))) (
        chk (decide ((0:Int)≤k)&&decide (k<(List.length (jt [] y i):Int))) (
         (gY (jt ByteArray.empty (jt [] y i) k)).bind fun(t:Bool)=>
         bif !t then
          Option.map Sum.inr (Option.map Sum.inr (
           Option.map Sum.inr (Option.map Sum.inr (
            some (i,4)))))
         else
          chk (decide ((0:Int)≤i)&&decide (i<(y.length:Int))) (
           chk (decide ((0:Int)≤k)&&decide (k<(List.length (jt [] y i):Int))) (
            (C2 V2 (jt ByteArray.empty (jt [] y i) k)).bind fun(jQ:Bool)=>
            bif jQ then
             Option.map Sum.inr (Option.map Sum.inr (
              Option.map Sum.inr (Option.map Sum.inr (
               some (i,5)))))
            else
             chk (decide ((0:Int)≤i)&&decide (i<(y.length:Int))) (
              chk (decide ((0:Int)≤k)&&decide (k<(List.length (jt [] y i):Int))) (
               (app V2 [jt ByteArray.empty (jt [] y i) k]).bind fun(vb:List js)=>
               some (.inl (vb,jv (k+1)))))))))
      else
       some (.inr (.inl V2)))) (all,0)=some (match Xy all p with |.inl vy =>.inl vy |.inr e =>.inr (.inr (.inr (i,e)))):=by
 rw[hp,hi];refine KH (X:=js) (fun rest s=>∃pre vy,p=pre++rest∧s=(vy,(pre.length:Int))∧vy.length≤1000+pre.length∧Xy all p=Xy vy rest) ?_ ?_ (l:=p) ⟨[],all,rfl,rfl,by simpa using ha,rfl⟩
 ·rintro x rest _ ⟨pre,vy,h1,rfl,h3,h2⟩;have jH:=congrArg List.length h1;rw[qe,qk]at jH;have hg:jt ByteArray.empty p (pre.length:Int)=x:=by rw[h1];exact Yx
  have hx:=hs x (by rw[h1];simp);have hk:(decide ((0:Int)≤(pre.length:Int))&&decide ((pre.length:Int)<(p.length:Int)))=true:=wX (jJ (by omega)) (jJ (by omega));simp only[];rw[hk,jJ (show(pre.length:Int)<(p.length:Int) by omega),hg];simp only[qv,WU];rw[yb2 (by omega),qh,UG (by omega),Eb (by rw[qj];omega)];rw[mW]at h2;cases hn:Yl x with
  |false=>
   rw[hn]at h2;refine Or.inr ?_;rw[h2];rfl
  |true=>
   cases hh:hasB vy x with
   |true=>
    rw[hn,hh]at h2;refine Or.inr ?_;rw[h2];rfl
   |false=>
    rw[hn,hh]at h2;refine Or.inl ⟨(vy++[x],((pre++[x]).length:Int)),?_,pre++[x],vy++[x],by rw[h1];simp,rfl,by rw[qe,qe,qj];omega,h2⟩;show some (Sum.inl (vy++[x],jv ((pre.length:Int)+1)))=_;rw[Qj (by omega) (by omega),qe,qj];rfl
 ·rintro _ ⟨pre,vy,h1,rfl,h3,h2⟩;rw[qL]at h1;subst h1;simp only[WU];rw[vG (show ¬(p.length:Int)<(p.length:Int) by omega),qu,h2];rfl
theorem zue{y:List (List js)}{request:List js}(h:WE y request):nh y=some (Ki y):=by
 obtain⟨hy,_,Zr⟩:=h;unfold nh Ki;cases(y.length:Int)==0 with
 |true=>rfl
 |false=>
  rw[qu,qu];cases h4:decide ((y.length:Int)>4)with
  |true=>rfl
  |false=>
   rw[qu,qu];have hl:∀F:(List js)×Int→Option (((List js)×Int)⊕((List js)⊕(Int×Int))),
     (∀(pre rest:List (List js)) (p:List js) (all:List js),y=pre++p::rest→all.length≤8*pre.length→F (all,(pre.length:Int))=bif decide ((p.length:Int)>6)then some (.inr (.inr ((pre.length:Int),8)))else match Xy all p with |.inl vy=>some (.inl (vy,((pre.length+1:Nat):Int))) |.inr e=>some (.inr (.inr ((pre.length:Int),e))))→
     (∀all:List js,F (all,(y.length:Int))=some (.inr (.inl all)))→vz F ([],0)=some (match J1 0 [] y with |.inl all =>.inl all |.inr e =>.inr e):=fun F h1 h2=>by
    refine KH (X:=List js) (fun rest s=>∃pre all,y=pre++rest∧s=(all,(pre.length:Int))∧all.length≤8*pre.length∧J1 0 [] y=J1 pre.length all rest) ?_ ?_ (l:=y) ⟨[],[],rfl,rfl,ql _,rfl⟩
    ·rintro p rest _ ⟨pre,all,e1,rfl,e0,e2⟩;rw[h1 pre rest p all e1 e0];rw[mX]at e2;cases e3:decide ((p.length:Int)>6)with
     |true=>rw[e3]at e2;refine Or.inr ?_;rw[qv];rw[e2];rfl
     |false=>
      rw[e3,qu]at e2;rw[qu];cases e4:Xy all p with
      |inl vy=>
       rw[e4]at e2;have Wl:=Lk e4;have:=(Zr p (by rw[e1];simp)).1;exact Or.inl ⟨_,rfl,pre++[p],vy,by rw[e1];simp,by rw[qe,qj],by rw[qe,qj];omega,by rw[qe,qj];exact e2⟩
      |inr e=>rw[e4]at e2;refine Or.inr ?_;rw[e2]
    ·rintro _ ⟨pre,all,e1,rfl,e0,e2⟩;rw[qL]at e1;subst e1;rw[h2 all,e2];rfl
   rw[hl]
   ·rw[qh];cases e:J1 0 [] y with
    |inr z=>rfl
    |inl all=>
     simp only[];cases decide ((all.length:Int)>8)<;>rfl
   ·intro pre rest p all e1 e0;have jH:=congrArg List.length e1;rw[qe,qk]at jH;have hg:jt [] y (pre.length:Int)=p:=by rw[e1];exact Yx
    have hp:=Zr p (by rw[e1];simp);have wy:(decide ((0:Int)≤(pre.length:Int))&&decide ((pre.length:Int)<(y.length:Int)))=true:=wX (jJ (by omega)) (jJ (by omega));have hc:=ybs wy hg hp.1 hp.2 (all:=all) (by omega);simp only[];rw[hc,hg,wy,jJ (show(pre.length:Int)<(y.length:Int) by omega),qv,WU];cases decide ((p.length:Int)>6)with
    |true=>rfl
    |false=>
     rw[qu,qu,qh];cases Xy all p with
     |inl vy=>simp only[];rw[Qj (by omega) (by omega)];rfl
     |inr e=>rfl
   ·intro all;simp only[];rw[vG (show ¬(y.length:Int)<(y.length:Int) by omega),qu]
def Qb(y:List (List js))(m:Int×Int):Int:=
 bif !G1 m.1 0 ((y.length:Int)-1)||(!G1 m.2 0 ((y.length:Int)-1)&&m.2 != -1)then 6 else
 bif ((jt [] y m.1).length:Int)==0 then 11 else bif m.1==m.2 then 3 else
 bif m.2 != -1&&decide (((jt [] y m.2).length:Int)≥6)then 16 else 0
theorem tO{y:List (List js)}(hy:y.length≤1000)(m:Int×Int):Bb y m=some (Qb y m):=by
 unfold Bb nO Qb G1;rw[Qj (x:=(y.length:Int)-1) (by omega) (by omega),ic,qh,ic,qh];by_cases h1:0≤m.1∧m.1≤(y.length:Int)-1
 ·rw [jJ h1,qh,zi,qu,qh,qh,yF];by_cases h2:0≤m.2∧m.2≤(y.length:Int)-1
  ·have hm:(m.2 != -1)=true:=by rw[zP];omega
   have hm':(m.2 == -1)=false:=by rw[qU];omega
   have hx:Kn m.2 0=m.2:=by unfold Kn;rw[qT (by omega)]
   rw[jJ h2,zi,zS,qu,qu,Zy (wX (jJ (by omega)) (jJ (by omega))),Ja,qh,Ja,qh,hm',qu,hx,Zy (wX (jJ (by omega)) (jJ (by omega))),qh,Ja,qh,CR (by simp),qh,hm];by_cases h3:((jt [] y m.1).length:Int)=0
   ·rw[h3];rfl
   ·rw[show(((jt [] y m.1).length:Int)==0)=false by rw[qU];exact h3,jJ (show((jt [] y m.1).length:Int)>0 by omega),qu];cases h4:m.1==m.2 with
    |true=>rw[show(m.1 !=m.2)=false by rw[bne,h4];rfl];rfl
    |false=>
     rw[show(m.1 !=m.2)=true by rw[bne,h4];rfl,qu,zJ];by_cases h5:((jt [] y m.2).length:Int)≥6
     ·rw[jJ h5,vG (show ¬((jt [] y m.2).length:Int)<6 by omega)];rfl
     ·rw[vG h5,jJ (show((jt [] y m.2).length:Int)<6 by omega)];rfl
  ·rw[vG h2];by_cases al:m.2 = -1
   ·rw[al];simp only[yn,zJ,show((-1:Int) != -1)=false from rfl,qu,show((-1:Int) == -1)=true from rfl,qv];rw[Zy (wX (jJ (by omega)) (jJ (by omega))),Ja,qh,Ja,qh,qh,Ja,qh,CR (by simp),qh];by_cases h3:((jt [] y m.1).length:Int)=0
    ·rw[h3];rfl
    ·rw[show(((jt [] y m.1).length:Int)==0)=false by rw[qU];exact h3,jJ (show((jt [] y m.1).length:Int)>0 by omega),qu];have h4:(m.1 == -1)=false:=by rw[qU];omega
     rw[h4,show(m.1 != -1)=true by rw[bne,h4];rfl];rfl
   ·rw[show(m.2 != -1)=true by rw[zP];exact al];rfl
 ·rw[vG h1];rfl
theorem y6i{y:List (List js)}{request:List js}(h:WE y request){m:Int×Int}(hm:Qb y m=0):∃n,V7 y m=some n∧n.length=y.length∧∀p∈n,p.length≤9:=by
 obtain⟨hy,_,Zr⟩:=h;have h1:∀p∈QK y m.1 ((jt [] y m.1).take ((jt [] y m.1).length-1)),p.length≤8:=fun p hp=>by
  unfold QK at hp;rcases xT hp with hp|rfl
  ·exact(Zr p hp).1
  ·rw[zE];have:(jt [] y m.1).length≤8:=by
    unfold jt;rw[qC];cases e:y[m.1.toNat]? with
    |none=>exact zz _
    |some x=>exact(Zr x (qK e)).1
   omega
 have Mw:(QK y m.1 ((jt [] y m.1).take ((jt [] y m.1).length-1))).length=y.length:=by unfold QK;rw[yx]
 unfold V7;simp only[];generalize QK y m.1 ((jt [] y m.1).take ((jt [] y m.1).length-1))=y1 at h1 Mw;cases hb:m.2 != -1 with
 |false=>exact⟨y1,rfl,Mw,fun p hp=>by have:=h1 p hp;omega⟩
 |true=>
  have h2:(jt [] y1 m.2).length≤8:=by
   unfold jt;rw[qC];cases e:y1[m.2.toNat]? with
   |none=>exact zz _
   |some x=>exact h1 x (qK e)
  rw[qv,Eb (by rw[qj];omega),qh];refine⟨_,rfl,by unfold QK;rw[yx];exact Mw,fun p hp =>?_⟩;unfold QK at hp;rcases xT hp with hp|rfl
  ·have:=h1 p hp;omega
  ·rw[qe,qj];omega
theorem y27{y:List (List js)}{request:List js}(h:WE y request):bX y=some (y,(Ki y).2):=by
 unfold bX;rw[Ra h,qh,ycy h,qh]
theorem UD{y:List (List js)}{request:List js}(h:WE y request):Vo y=true:=by
 unfold Vo;refine wX (jJ (by have:=h.1;omega)) (qW.2 fun p hp=>jJ ?_);have:=(h.2.2 p hp).1;omega
theorem y7j{y:List (List js)}{request:List js}(h:WE y request)(m:Int×Int)(he:(Ki y).2=0):∃n:List (List js),uj y m=some (n,Qb y m)∧WI y m=some (n,Qb y m)∧n.length≤6∧∀p∈n,p.length≤9:=by
 have hy:=h.1;have hE:(Qb y m=0→∃n,V7 y m=some n∧n.length=y.length∧∀p∈n,p.length≤9):=y6i h;have hc:uj y m=bif Qb y m !=0 then some ([],Qb y m)else(V7 y m).bind fun n=>some (n,0):=by
  unfold uj;rw[UD h,qv,Ra h,qh,he,show((0:Int)==0)=true from rfl,qv,tO (by omega),qh]
 have hr:WI y m=bif Qb y m !=0 then some ([],Qb y m)else(V7 y m).bind fun n=>some (n,0):=by
  unfold WI Qb G1;rw[UD h,qv,Qj (x:=(y.length:Int)-1) (by omega) (by omega),gX,qh,gX];by_cases h1:0≤m.1∧m.1≤(y.length:Int)-1
  ·rw [jJ h1];by_cases h2:0≤m.2∧m.2≤(y.length:Int)-1
   ·have hm:(m.2 != -1)=true:=by rw[zP];omega
    rw[jJ h2,hm];simp only[qv,qh,zi,xj,qu,zS,zJ];cases((jt [] y m.1).length:Int)==0 with
    |true=>rfl
    |false=>
     cases m.1==m.2 with
     |true=>rfl
     |false=>
      cases decide (((jt [] y m.2).length:Int)≥6)with
      |true=>rfl
      |false=>rfl
   ·rw[vG h2];cases hm:m.2 != -1 with
    |true=>rfl
    |false=>
     simp only[qv,qh,zi,xj,qu,zS,zJ,yn];cases((jt [] y m.1).length:Int)==0 with
     |true=>rfl
     |false=>
      cases m.1==m.2 with
      |true=>rfl
      |false=>rfl
  ·rw[vG h1];by_cases h2:0≤m.2∧m.2≤(y.length:Int)-1
   ·rw[jJ h2];cases m.2 != -1<;>rfl
   ·rw[vG h2];cases m.2 != -1<;>rfl
 cases hz:Qb y m !=0 with
 |true=>
  rw[hz]at hc hr;exact⟨[],hc,hr,by simp,fun p hp=>by cases hp⟩
 |false=>
  have h0:Qb y m=0:=by simpa using hz
  obtain⟨n,e1,e2,e3⟩:=hE h0;rw[hz,qu,e1]at hc hr;rw[h0];exact⟨n,hc,hr,by omega,e3⟩
end Go.Lift
