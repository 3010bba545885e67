/-
  Loops, numbers in their kinds, names on both sides.
-/
import Derived.Test.YtggnjngdmadbaaaGreatDoorFunF
set_option linter.all false
namespace Go.Lift
open Go
theorem UN{S R:Type}{f:S→Option (S⊕R)}:∀{n m:Nat} {s:S} {r:R},V6 f n s=some r→n≤m→V6 f m s=some r
 |0,_,_,_,h,_=>by simp[V6]at h
 |n+1,0,_,_,_,h=>by omega
 |n+1,m+1,s,r,h,hm=>by
  simp only[V6]at h⊢;split at h
  ·exact UN h (by omega)
  ·exact h
  ·cases h
theorem TP{S R:Type}{f:S→Option (S⊕R)}{s:S}{r:R}{n:Nat}(h:V6 f n s=some r):vz f s=some r:=by
 unfold vz;have hx:∃n r,V6 f n s=some r:=⟨n,r,h⟩
 rw[dif_pos hx];have h2:=yu (yu hx);have a:=UN h (Nat.le_max_left n (Classical.choose hx));have b:=UN h2 (Nat.le_max_right n (Classical.choose hx));rw[b]at a;exact a
theorem y00{S R:Type}{f:S→Option (S⊕R)}{s:S}{r:R}:vz f s=some r↔∃n,V6 f n s=some r:=by
 constructor
 ·intro h;unfold vz at h;split at h
  ·rename_i hx;simp only[qb]at h;subst h;exact⟨_,yu (yu hx)⟩
  ·cases h
 ·exact fun⟨n,h⟩=>TP h
theorem Az{S R:Type}{f:S→Option (S⊕R)}{s s':S}(h:f s=some (.inl s')):vz f s=vz f s':=by
 have key:∀r,vz f s=some r↔vz f s'=some r:=fun r=>by
  rw[y00,y00];constructor
  ·rintro⟨n,hn⟩;cases n with
   |zero=>simp[V6]at hn
   |succ n=>simp only[V6,h]at hn;exact⟨n,hn⟩
  ·rintro⟨n,hn⟩;exact⟨n+1,by simp only[V6,h];exact hn⟩
 cases h1:vz f s with
 |some r=>exact((key r).1 h1).symm
 |none=>
  cases h2:vz f s' with
  |some r=>rw[(key r).2 h2]at h1;cases h1
  |none=>rfl
theorem Ej{S R:Type}{f:S→Option (S⊕R)}{s:S}{r:R}(h:f s=some (.inr r)):vz f s=some r:=
 TP (n:=1) (by simp only[V6,h])
theorem y2k{S R:Type}{f:S→Option (S⊕R)}(g:Nat→S)(n:Nat){r:R}(wI:∀k,k<n→f (g k)=some (.inl (g (k+1))))(Q2:f (g n)=some (.inr r)):vz f (g 0)=some r:=by
 have key:∀k,k≤n→vz f (g k)=some r:=by
  intro k hk;generalize hd:n-k=d;induction d generalizing k with
  |zero=>
   have:k=n:=by omega
   subst this;exact Ej Q2
  |succ d ih=>
   rw[Az (wI k (by omega))];exact ih (k+1) (by omega) (by omega)
 exact key 0 (zz n)
theorem tN{S R:Type}{f:S→Option (S⊕R)}(g:Nat→S)(n:Nat){s:S}{r:R}(h0:s=g 0)(wI:∀k,k<n→f (g k)=some (.inl (g (k+1))))(Q2:f (g n)=some (.inr r)):vz f s=some r:=by
 rw[h0];exact y2k g n wI Q2
theorem yee(x:Int):jv x=if x%18446744073709551616≥9223372036854775808 then x%18446744073709551616-18446744073709551616 else x%18446744073709551616:=by
 unfold jv IntKind.wrap;have h1:IntKind.i64.signed=true:=rfl;have h2:IntKind.i64.bits=64:=rfl;have e1:(2:Int) ^ 64=18446744073709551616:=by decide
 have e2:(2:Int) ^ (64-1)=9223372036854775808:=by decide
 simp only[h1,h2,zJ,e1,e2,qI]
theorem Qj{x:Int}(h0:-9223372036854775808≤x)(h1:x<9223372036854775808):jv x=x:=by
 rw[yee];split<;>omega
theorem Eb{α:Type}{l m:List α}(h:l.length+m.length≤4294967296):app l m=some (l++m):=by unfold app;rw[qH h]
theorem Zy{A:Type}{c:Bool}{k:Option A}(h:c=true):chk c k=k:=by subst h;rfl
theorem wX{a b:Bool}(ha:a=true)(hb:b=true):(a&&b)=true:=by rw[ha,hb];rfl
theorem jJ{p:Prop}[Decidable p](h:p):decide p=true:=yE h
theorem vG{p:Prop}[Decidable p](h:¬p):decide p=false:=xW h
theorem ic(n lo hi:Int):Vt n lo hi=some (decide (lo≤n∧n≤hi)):=by
 unfold Vt;simp only[qb];by_cases h1:lo≤n<;>by_cases h2:n≤hi<;>simp[h1,h2]
theorem gX(n lo hi:Int):As n lo hi=some (decide (lo≤n∧n≤hi)):=by
 unfold As;simp only[qb];by_cases h1:lo≤n<;>by_cases h2:n≤hi<;>simp[h1,h2]
theorem tM{X S R:Type}{f:S→Option (S⊕R)}(I:List X→S→Prop)(Q:R→Prop)
  (wI:∀x l s,I (x::l) s→(∃s',f s=some (.inl s')∧I l s')∨∃r,f s=some (.inr r)∧Q r)
  (Q2:∀s,I [] s→∃r,f s=some (.inr r)∧Q r):∀{l:List X} {s:S},I l s→∃r,vz f s=some r∧Q r
 |[],s,h=>by
  obtain⟨r,h1,h2⟩:=Q2 s h;exact⟨r,Ej h1,h2⟩
 | x::l,s,h=>by
  rcases wI x l s h with⟨s',h1,h2⟩|⟨r,h1,h2⟩
  ·rw[Az h1];exact tM I Q wI Q2 h2
  ·exact⟨r,Ej h1,h2⟩
theorem KH{X S R:Type}{f:S→Option (S⊕R)}{t:R}(I:List X→S→Prop)
  (wI:∀x l s,I (x::l) s→(∃s',f s=some (.inl s')∧I l s')∨f s=some (.inr t))
  (Q2:∀s,I [] s→f s=some (.inr t)) {l:List X} {s:S} (h:I l s):vz f s=some t:=by
 obtain⟨r,h1,h2⟩:=tM I (fun r=>r=t) (fun x l s hi=>by
  rcases wI x l s hi with h|h
  ·exact Or.inl h
  ·exact Or.inr ⟨t,h,rfl⟩) (fun s hi=>⟨t,Q2 s hi,rfl⟩) h
 rw[h1,h2]
theorem Yx{A:Type}{d x:A}{pre post:List A}:jt d (pre++x::post) (pre.length:Int)=x:=by
 unfold jt;rw[yP];simp
theorem ycg{A B:Type}{f:A→B}{d:B}{x:A}{pre post:List A}:jt d ((pre++x::post).map f) (pre.length:Int)=f x:=by
 unfold jt;rw[yP];simp
def J3:List Int→Int
 |[]=>0
 |x::l=>if x=0 then J3 l else x
theorem CR{l:List Int}(hl:l.length≤1000):Jb l=some (J3 l):=by
 unfold Jb;refine qi.2 ⟨(if J3 l=0 then .inl ()else .inr (J3 l)),?_,by
  by_cases h:J3 l=0
  ·rw[qH h,h]
  ·rw[qT h]⟩
 refine KH (X:=Int) (l:=l) (fun l' s=>∃pre,l=pre++l'∧s=(pre.length:Int)∧J3 l=J3 l') ?_ ?_ ⟨[],rfl,rfl,rfl⟩
 ·rintro x l' s ⟨pre,e1,rfl,e2⟩;have hL:l.length=pre.length+(l'.length+1):=by rw[e1,qe,qk]
  have g1:∀d,jt d l (pre.length:Int)=x:=fun d=>by rw[e1];exact Yx
  rw[jJ (show(pre.length:Int)<(l.length:Int) by omega),qv,Zy (wX (jJ (by omega)) rfl),g1];by_cases h:x=0
  ·left;have:J3 (x::l')=J3 l':=qH h;rw[this]at e2;rw[h,show((0:Int)!=0)=false from rfl,qu,Qj (by omega) (by omega)];exact⟨_,rfl,pre++[x],by rw[e1];simp,by rw[qe,qj];rfl,e2⟩
  ·right;have:J3 (x::l')=x:=qT h;rw[e2,this,qT h,show(x !=0)=true by simpa using h,qv];rfl
 ·rintro s ⟨pre,e1,rfl,e2⟩;have hL:l.length=pre.length:=by rw[e1,qL]
  rw[vG (show ¬(pre.length:Int)<(l.length:Int) by omega),qu,e2];rfl
def nameAt(i:Nat)(c:Int):Bool:=(decide (97≤c∧c≤122)||decide (65≤c∧c≤90))||(decide (i≠0)&&(decide (c=45)||decide (48≤c∧c≤57)))
def J0:Nat→List Int→Bool
 |_,[]=>true
 |i,c::l=>nameAt i c&&J0 (i+1) l
def Yl(s:js):Bool:=J0 0 (Zj s)&&decide (1≤(s.size:Int)∧(s.size:Int)≤12)
theorem Ig(s:js):(Zj s).length=s.size:=by
 unfold Zj;rw[zg];rfl
theorem zqd{s:js}{c:Int}(h:c∈Zj s):0≤c∧c<256:=by
 unfold Zj at h;obtain⟨b,_,rfl⟩:=zG.1 h;have:=b.toNat_lt;omega
theorem y84{s:js}{i:Int}(h0:0≤i)(h1:i<s.size):Xk s i=jt 0 (Zj s) i:=by
 unfold Xk jt Zj;obtain⟨n,rfl⟩:∃n:Nat,i=(n:Int):=⟨i.toNat,by omega⟩
 rw[yP];have hn:n<s.data.size:=by
  have:(n:Int)<(s.data.size:Int):=h1;omega
 have VP:n<s.data.toList.length:=hn;rw[qw,qC,yG,qZ hn,qr VP];rfl
theorem y9s{s:js}(h:s.size≤9223372036854775807):GU s=some (Yl s):=by
 unfold GU;have jH:=Ig s;refine qi.2 ⟨(if J0 0 (Zj s)then .inl ()else .inr false),?_,?_⟩
 ·refine KH (X:=Int) (l:=Zj s) (fun l' t=>∃pre,Zj s=pre++l'∧t=(pre.length:Int)∧J0 0 (Zj s)=J0 pre.length l') ?_ ?_ ⟨[],rfl,rfl,rfl⟩
  ·rintro x l' t ⟨pre,e1,rfl,e2⟩;have hL:(Zj s).length=pre.length+(l'.length+1):=by rw[e1,qe,qk]
   have g1:∀d,jt d (Zj s) (pre.length:Int)=x:=fun d=>by rw[e1];exact Yx
   have hx:=zqd (s:=s) (c:=x) (by rw[e1];simp);rw[jJ (show(pre.length:Int)<((Zj s).length:Int) by omega),qv,Zy (wX (jJ (by omega)) rfl),g1];simp only;rw[Qj (by omega) (by omega),ic,qh,ic,qh,ic,qh];have e3:J0 pre.length (x::l')=(nameAt pre.length x&&J0 (pre.length+1) l'):=rfl;rw[e3]at e2;have hb:((bif decide (97≤x∧x≤122)then some true else some (decide (65≤x∧x≤90))).bind fun ZV=>
     (bif !ZV then(bif ((pre.length:Int)==0)then some true else(bif (x !=45)then some (!decide (48≤x∧x≤57))else some false).bind fun Xu=>some Xu).bind fun F6=>some F6 else some false))=some (!nameAt pre.length x):=by
    unfold nameAt;by_cases h1:97≤x∧x≤122
    ·rw[jJ h1];rfl
    ·rw[vG h1,qu,qh,yF];by_cases h2:65≤x∧x≤90
     ·rw[jJ h2];rfl
     ·rw[vG h2,yn,qv,yF];by_cases h3:pre.length=0
      ·rw[show((pre.length:Int)==0)=true by rw[h3];rfl,vG (show ¬pre.length≠0 by omega)];rfl
      ·rw[show((pre.length:Int)==0)=false by rw[qU];omega,jJ (show pre.length≠0 from h3),qu,zJ];by_cases h4:x=45
       ·rw[jJ h4,show(x !=45)=false by rw[h4];rfl];rfl
       ·rw[vG h4,show(x !=45)=true by rw[zP];exact h4,yF];rfl
   generalize nameAt pre.length x=b at*;rw[qi]at hb;obtain⟨c1,Yt,Vj⟩:=hb;rw[Yt,qh,Vj,qh];cases b with
   |true=>
    left;rw[zi,qu,Qj (by omega) (by omega)];rw[zJ]at e2;exact⟨_,rfl,pre++[x],by rw[e1];simp,by rw[qe,qj];rfl,by rw[qe,qj];exact e2⟩
   |false=>
    right;rw[zS]at e2;rw[e2];rfl
  ·rintro t ⟨pre,e1,rfl,e2⟩;have hL:(Zj s).length=pre.length:=by rw[e1,qL]
   rw[vG (show ¬(pre.length:Int)<((Zj s).length:Int) by omega),qu,e2];rfl
 ·unfold Yl;cases J0 0 (Zj s)with
  |true=>simp only[yp,zJ];rw[ic,qh]
  |false=>rfl
theorem yb2{s:js}(h:s.size≤9223372036854775807):gY s=some (Yl s):=by
 unfold gY Yl;have jH:=Ig s;by_cases hs:1≤(s.size:Int)∧(s.size:Int)≤12
 ·rw[jJ hs,Bool.and_true,vG (show ¬(s.size:Int)<1 by omega),vG (show ¬(s.size:Int)>12 by omega),Bool.or_self,qu];refine qi.2 ⟨(if J0 0 (Zj s)then .inl ()else .inr false),?_,by cases J0 0 (Zj s)<;>rfl⟩;refine KH (X:=Int) (l:=Zj s) (fun l' t=>∃pre,Zj s=pre++l'∧t=(pre.length:Int)∧J0 0 (Zj s)=J0 pre.length l') ?_ ?_ ⟨[],rfl,rfl,rfl⟩
  ·rintro x l' t ⟨pre,e1,rfl,e2⟩;have hL:(Zj s).length=pre.length+(l'.length+1):=by rw[e1,qe,qk]
   have g1:Xk s (pre.length:Int)=x:=by rw[y84 (by omega) (by omega),e1];exact Yx
   have hx:=zqd (s:=s) (c:=x) (by rw[e1];simp);rw[jJ (show(pre.length:Int)<(s.size:Int) by omega),qv,Zy (wX (jJ (by omega)) rfl),g1];simp only;have e3:J0 pre.length (x::l')=(nameAt pre.length x&&J0 (pre.length+1) l'):=rfl;rw[e3]at e2;have hb:((!((decide (x≥97)&&decide (x≤122))||(decide (x≥65)&&decide (x≤90))))&&(((pre.length:Int)==0)||((x !=45)&&(decide (x<48)||decide (x>57)))))=!nameAt pre.length x:=by
    unfold nameAt;rw[kn];simp only[qg,yh,zO,qI,yo,zP,zX,Bool.and_eq_false_iff,decide_eq_false_iff_not];omega
   rw[hb];generalize nameAt pre.length x=b at*;cases b with
   |true=>
    left;rw[zi,qu,Qj (by omega) (by omega)];rw[zJ]at e2;exact⟨_,rfl,pre++[x],by rw[e1];simp,by rw[qe,qj];rfl,by rw[qe,qj];exact e2⟩
   |false=>
    right;rw[zS]at e2;rw[e2];rfl
  ·rintro t ⟨pre,e1,rfl,e2⟩;have hL:(Zj s).length=pre.length:=by rw[e1,qL]
   rw[vG (show ¬(pre.length:Int)<(s.size:Int) by omega),qu,e2];rfl
 ·rw[vG hs,kg];have:(decide ((s.size:Int)<1)||decide ((s.size:Int)>12))=true:=by
   rw[yh,qI,qI];omega
  rw[this,qv]
theorem Ja(b:Bool)(e:Int):Z1 b e=some (if b then 0 else e):=by
 unfold Z1;cases b<;>rfl
end Go.Lift
