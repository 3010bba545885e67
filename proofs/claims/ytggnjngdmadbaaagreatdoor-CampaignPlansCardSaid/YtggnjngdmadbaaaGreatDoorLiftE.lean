/-
  Single operations, third part.
-/
import Derived.Test.YtggnjngdmadbaaaGreatDoorLiftD
import Derived.Lib.SliceRun
set_option linter.all false
namespace Go.Lift
open Go Go.RowKit
variable [wB] [Mf]
variable {P:Program} {Γ:QW} {base:Nat} {κ:Nat→Option Nat} {M:Mem} {σ:St} {a:Act} {w:World}
theorem IQ:∀{o:Own} {s:Option Nat},GG o=some s→([],s)∈o
 |[],_,h=>by cases h
 |([],s)::_,_,h=>by simp only[GG,qb]at h;subst h;exact zR
 |(_::_,_)::r,_,h=>by simp only[GG]at h;exact qo _ (IQ h)
theorem ni{f:FuncId}(h:Enters P f)(args:Array Value)(w:World):(callFunc f args).run P w = .ok (.enter f args) w:=by
 obtain⟨fn,h1,h2,h3⟩:=h;simp only[callFunc,program,qy,Sem.run,qt,h1,h3,h2,qA,zp];rfl
theorem yaq{caps:List EF}{cs:List (Sigma Ty.den)}(h:GK caps=some cs){bo:Nat→Option Box}:∀{vs:List Value},zf9 P κ M bo caps vs→∀{M':Mem},Mem.le M M'→∀(a:Ty) (x:a.den) (u:Value),jz P a M' x u→Kh P M' (a::cs.map fun c =>.ptr c.1) (sS a x cs) (u::vs):=by
 induction caps generalizing cs with
 |nil=>
  intro vs hv M' _ a x u hu;simp only[GK,qb]at h;subst h;simp only[zf9]at hv;subst hv;exact⟨u,rfl,hu⟩
 |cons c r ih=>
  intro vs hv M' hM a x u hu;cases c with
  |inl b=>simp[GK]at h
  |inr d=>
   simp only[GK]at h;split at h
   ·rename_i l hl;simp only[qb]at h;subst h;obtain⟨v,rest,rfl,h1,h2⟩:=hv;exact⟨u,v::rest,rfl,hu,ih hl h2 hM (.ptr d.1) d.2 v (ZZ hM h1)⟩
   ·cases h
theorem ID{s:Sig}{cs:List (Sigma Ty.den)}{ta tr:Ty}{φ:ta.den→Option tr.den}(h:sJ s cs ta tr=some φ)(hs:Enters P s.f)(hF:FC P s){caps:List EF}(hd:GK caps=some cs){bo:Nat→Option Box}{vs:Array Value}(hv:zf9 P κ M bo caps vs.toList):
  jz P (.fn ta tr) M φ (.func (.func s.f) #[] vs):=by
 unfold sJ at h;split at h
 ·rename_i h1;split at h
  ·rename_i h2;simp only[qb]at h;subst h;obtain⟨f,ats,rts,run⟩:=s;simp only at h1 h2;subst h1 h2;refine⟨f,#[],vs,rfl,hs,fun M' w x y u hM hG hy hu =>?_⟩;have vk:=yaq hd hv hM ta x u hu;have:=hF (sS ta x cs) y hy M' w (u::vs.toList) hG vk;have e:#[] ++ #[u]++vs=(u::vs.toList).toArray:=by apply yR;simp
   rw[e];exact this
  ·cases h
 ·cases h
section
variable {T:TypeId} {d:TypeDesc}
theorem zqw(n:Nat){ms}(h:P.underlying T=some (.interface ms))(w:World):(Op.equalIn (n+1) T .nilIface .nilIface).run P w = .ok true w:=by
 simp[Op.equalIn,qG h]
theorem zqv(n:Nat){ms}(h:P.underlying T=some (.interface ms))(s:TypeId)(u:Value)(w:World):(Op.equalIn (n+1) T (.iface s u) .nilIface).run P w = .ok false w:=by
 simp[Op.equalIn,qG h]
theorem zur{ms}(h:P.underlying T=some (.interface ms))(w:World):(Op.equal T .nilIface .nilIface).run P w = .ok true w:=zqw 9999 h w
theorem zuq{ms}(h:P.underlying T=some (.interface ms))(s:TypeId)(u:Value)(w:World):(Op.equal T (.iface s u) .nilIface).run P w = .ok false w:=zqv 9999 h s u w
end
section jA
variable (hR:jW P base κ M σ a w) (hC:Qw P Γ)
include hR hC
theorem sI{x:Operand}{t:Ty}{y:t.den}(h:St.arg Γ σ x t=some y):jz P t M y (a.eval x):=by
 unfold St.arg at h;split at h
 ·split at h
  ·rename_i g;split at h
   ·rename_i s hs;obtain⟨h1,h2,h3⟩:=hC.sig g s hs;subst h1;exact ID (κ:=κ) (bo:=σ.box) (vs := #[]) h h2 h3 (caps:=[]) rfl rfl
   ·cases h
  ·split at h
   ·rename_i g caps hx;split at h
    ·rename_i s cs hs Kt;obtain⟨h1,h2,h3⟩:=hC.sig g s hs;subst h1;obtain⟨vs,hv,hr⟩:=XK hR hx;rw[hv];exact ID h h2 h3 Kt hr
    ·cases h
   ·exact GH hR h
 ·split at h
  ·simp only[qb]at h;subst h;unfold jz Qd;simp only[Ty.agg,qA,zp,jB];exact⟨_,rfl,.inl ⟨rfl,trivial⟩⟩
  ·exact GH hR h
 ·exact GH hR h
theorem IF:∀(ts:List Ty) (xs:List Operand) (x:vx ts),KF σ (St.arg Γ σ) ts xs=some x→Kh P M ts x (xs.map a.eval)
 |[],[],x,_=>rfl
 |[t],[y],x,h=>by
  simp only[KF]at h;exact⟨_,rfl,sI hR hC h⟩
 | t::u::r,y::ys,x,h=>by
  simp only[KF]at h;split at h
  ·rename_i v hv;split at h
   ·rename_i v' ZC;simp only[qb]at h;subst h;exact⟨_,_,rfl,sI hR hC hv,IF (u::r) ys v' ZC⟩
   ·cases h
  ·cases h
 |[],_::_,_,h=>by simp[KF]at h
 |[_],[],_,h=>by simp[KF]at h
 |[_],_::_::_,_,h=>by simp[KF]at h
 |_::_::_,[],_,h=>by simp[KF]at h
theorem y99{o:Oper}{c:Call}{f:FuncId}(jx:o.op = .call c)(jI:c.callee = .value (.func f)):ZL P κ M w σ a o (jK Γ o σ):=by
 simp only[jK,jx,jI];split
 ·rename_i I hI;split
  ·rename_i x y hg vk;split
   ·rename_i s Yr hs NQ;obtain⟨h2,h3⟩:=hC.iters f I hI;have jF:(execOp a.eval o).run P w = .ok (.enter f (c.args.map a.eval)) w:=by simp[execOp,jx,resolve,jI,Act.eval,Deferred.ofValue,invoke,ni h2]
    have e1:a.eval x = .string s:=Xj.1 (GH hR hs);have e2:a.eval y = .string Yr:=Xj.1 (GH hR NQ);have hm:c.args.map a.eval=#[.string s,.string Yr]:=by
     apply yR;rw[xv,vk,zl,zl,xC,e1,e2]
    exact⟨f,_,jF,by rw[hm];exact h3 s Yr M w hR.good⟩
   ·exact vh
  ·exact vh
 split
 ·rename_i s hs;split
  ·rename_i xs H4;obtain⟨h1,h2,h3⟩:=hC.sig f s hs;have jF:(execOp a.eval o).run P w = .ok (.enter f (c.args.map a.eval)) w:=by simp[execOp,jx,resolve,jI,Act.eval,Deferred.ofValue,invoke,ni h2]
   have vk:Kh P M s.ats xs (c.args.map a.eval).toList:=by rw[xv];exact IF hR hC _ _ _ H4
   subst h1;split
   ·rename_i hn;simp only[qg]at hn;split
    ·rename_i e he;intro l hl;have:=hC.owns _ s hn.2 hs e xs l hl M w _ hR.good vk;rw[yl]at this;exact⟨s.f,c.args.map a.eval,jF,this⟩
    ·exact vh
   split
   ·rename_i hn;simp only[qg]at hn;split
    ·rename_i e he;intro l hl;have:=hC.news _ s hn.1.2 hs e xs l hl M w _ hR.good vk;rw[yl]at this;exact⟨s.f,c.args.map a.eval,jF,this⟩
    ·exact vh
   ·exact⟨c.args.map a.eval,jF,vk,h3⟩
  ·exact vh
 ·exact vh
theorem Re:∀(ts:List Ty) (xs:List Operand) (cs:List (Sigma Ty.den)) (us:List Value) (x:vx ts),YW σ (St.arg Γ σ) ts xs cs=some x→zf9 P κ M σ.box (cs.map .inr) us→Kh P M ts x (xs.map a.eval++us)
 |[],[],[],us,x,_,hu=>by have hu:us=[]:=hu;subst hu;rfl
 |[t],[y],[],us,x,h,hu=>by
  have hu:us=[]:=hu;subst hu;simp only[YW]at h;exact⟨_,rfl,sI hR hC h⟩
 |[t],[],[c],us,x,h,hu=>by
  obtain⟨v,rest,rfl,h1,h2⟩:=hu;have h2:rest=[]:=h2;subst h2;simp only[YW]at h;exact⟨v,rfl,LI h h1⟩
 | t::u::r,y::ys,cs,us,x,h,hu=>by
  simp only[YW]at h;split at h
  ·rename_i v v' hv ZC;simp only[qb]at h;subst h;exact⟨_,_,rfl,sI hR hC hv,Re (u::r) ys cs us v' ZC hu⟩
  ·cases h
 | t::u::r,[],c::cs,us,x,h,hu=>by
  obtain⟨v0,rest,rfl,h1,h2⟩:=hu;simp only[YW]at h;split at h
  ·rename_i v v' hv ZC;simp only[qb]at h;subst h;exact⟨_,_,rfl,LI hv h1,Re (u::r) [] cs rest v' ZC h2⟩
  ·cases h
 |[],_::_,_,_,_,h,_=>by simp[YW]at h
 |[],[],_::_,_,_,h,_=>by simp[YW]at h
 |[_],[],[],_,_,h,_=>by simp[YW]at h
 |[_],[],_::_::_,_,_,h,_=>by simp[YW]at h
 |[_],[_],_::_,_,_,h,_=>by simp[YW]at h
 |[_],_::_::_,_,_,_,h,_=>by simp[YW]at h
 |_::_::_,[],[],_,_,h,_=>by simp[YW]at h
omit hR hC in
theorem zqp:∀{caps:List EF} {cs:List (Sigma Ty.den)},GK caps=some cs→caps=cs.map .inr
 |[],cs,h=>by simp only[GK,qb]at h;subst h;rfl
 | .inr c::r,cs,h=>by
  simp only[GK]at h;split at h
  ·rename_i l hl;simp only[qb]at h;subst h;rw[zqp hl];rfl
  ·cases h
 |.inl _::_,_,h=>by simp only[GK]at h;cases h
theorem y6d{o:Oper}{c:Call}{x:Operand}(jx:o.op = .call c)(jI:c.callee = .value x)(hx:∀f,x ≠ .func f):ZL P κ M w σ a o (jK Γ o σ):=by
 have:jK Γ o σ=(match σ.opd x,c.args.toList with
   |some (.data (.fn a r) φ _),[y]=>match AVal.get (σ.opd y) a with
    |some v =>.dyn a r φ v
    |none =>.fail
   | some (.clo g caps),ys=>match Γ.sig g,GK caps with
    |some s,some cs=>match YW σ (St.arg Γ σ) s.ats ys cs with
     |some xs =>.call s xs
     |none =>.fail
    |_,_ =>.fail
   |_,_ =>.fail):=by
  simp only[jK,jx,jI];cases x with
  |func f=>exact absurd rfl (hx f)
  |_=>rfl
 rw[this];split
 ·rename_i ta tr φ own y wn hy;split
  ·rename_i v hv;intro z hz;have h1:=Z9 hR wn;unfold jz Qd at h1;simp only[Ty.agg,qA,zp,jB]at h1;obtain⟨g,first,cap,he,OO,QA⟩:=h1;simp only[qM,zA]at he;have vk:c.args=#[y]:=by
    apply yR;rw[hy]
   refine⟨g,first ++ #[a.eval y]++cap,?_,QA M w v z (a.eval y) (Mem.le_refl M) hR.good hz (GH hR hv)⟩;simp[execOp,jx,resolve,jI,he,Deferred.ofValue,invoke,ni OO,vk]
  ·exact vh
 ·rename_i g caps wn;split
  ·rename_i s cs hs Kt;split
   ·rename_i xs H4;obtain⟨h1,h2,h3⟩:=hC.sig g s hs;obtain⟨vs,he,ZS⟩:=XK hR wn;rw[zqp Kt]at ZS;have:=Re hR hC s.ats c.args.toList cs vs.toList xs H4 ZS;subst h1;refine⟨c.args.map a.eval++vs,?_,by rw[Array.toList_append,xv];exact this,h3⟩;simp[execOp,jx,resolve,jI,he,Deferred.ofValue,invoke,ni h2]
   ·exact vh
  ·exact vh
 ·exact vh
omit hR hC in
theorem bi{k v:Ty}{T:TypeId}(h:fits P (.mapT k v) (.inl T)=true):∃K V,P.underlying T=some (.map K V)∧k.scal=true∧v.scal=true∧fits P k (.inl K)=true∧fits P v (.inl V)=true∧∃i,P.info? V=some i∧nX v i.zero=true:=by
 unfold fits at h;cases hi:P.info? T with
 |none=>rw[hi]at h;cases h
 |some i=>
  cases hd:P.underlying T with
  |none=>rw[hi,hd]at h;cases h
  |some d=>
   rw[hi,hd]at h;simp only[qg]at h;have h2:=h.2;cases d<;>first|(cases h2;done)|skip
   rename_i K V;simp only[qg]at h2;refine⟨K,V,rfl,h2.1.1.1.1,h2.1.1.1.2,h2.1.1.2,h2.1.2,?_⟩;have h3:=h2.2;cases hv:P.info? V with
   |none=>rw[hv]at h3;cases h3
   |some i'=>rw[hv]at h3;exact⟨i',rfl,h3⟩
omit hR hC in
theorem PU{κ:Nat→Option Nat}{tk:Nat→Bool}{b:Nat}{tid:TypeId}{k v:Ty}{l:List (k.den×v.den)}{own:Own}(h:RelB P κ M w tk b ⟨tid,.mapT k v,l,own,true⟩):
  ∃g es c,κ b=some g∧w.heap[g]?=some (.map es c)∧XB k v l es:=by
 obtain⟨g,h1,h2,⟨jT,E,h3,h4,h5⟩|⟨FF,k',v',l',es,c,h3,h4,h5⟩⟩:=h
 ·exact h4.elim
 ·cases h3;exact⟨g,es,c,h1,h4,h5.1⟩
theorem dl{o:Oper}{c:Call}(jx:o.op = .call c)(jI:c.callee = .builtin .len):ZL P κ M w σ a o (jK Γ o σ):=by
 simp only[jK,jx,jI];split
 ·rename_i x T hx hT;have vk:c.args=#[x]:=by apply yR;rw[hx]
  have Js:c.argTypes=#[T]:=by apply yR;rw[hT]
  split
  ·rename_i e l own e' hl ht;obtain⟨E,hE,_⟩:=Fy (hC.ty T _ ht);have wn:=Z9 hR hl;unfold jz Qd at wn;simp only[Ty.agg,qA,zp,jB]at wn;obtain⟨v,hv,wn⟩:=wn;simp only[qM,zA]at hv;refine⟨_,?_,Fx⟩;rcases wn with⟨hb,hl⟩|⟨b,off,cap,cells,hb,_⟩|⟨ad,cap,hb,hl⟩
   ·subst hl;simp[execOp,jx,resolve,jI,vk,Js,hv,hb,invoke,builtin,Builtin.len_,qG hE,goInt]
   ·simp[execOp,jx,resolve,jI,vk,Js,hv,hb,invoke,builtin,Builtin.len_,qG hE,goInt]
   ·subst hl;simp[execOp,jx,resolve,jI,vk,Js,hv,hb,invoke,builtin,Builtin.len_,qG hE,goInt]
  ·rename_i s own hl ht;have hu:=Ak (hC.ty T _ ht);have hv:=Xj.1 (Z9 hR hl);exact⟨_,by simp[execOp,jx,resolve,jI,vk,Js,hv,invoke,builtin,Builtin.len_,qG hu,goInt],Fx⟩
  ·rename_i b e' hl ht;obtain⟨E,hE,_⟩:=Fy (hC.ty T _ ht);split
   ·rename_i tid e l own hB;obtain⟨FF,e2,l2,oD,g,cap,g1,g2,_,g3⟩:=XK hR hl;rw[hB]at g1;simp only[qb,Box.mk.injEq,Ty.slice.injEq]at g1;obtain⟨_,rfl,hl,_,_⟩:=g1;have hl:=eq_of_heq hl;subst hl;exact⟨_,by simp[execOp,jx,resolve,jI,vk,Js,g3,invoke,builtin,Builtin.len_,qG hE,goInt],Fx⟩
   ·exact vh
  ·rename_i b kt vt hl ht;split
   ·rename_i tid k v l own hB;obtain⟨K,V,hE,_⟩:=bi (hC.ty T _ ht);obtain⟨FF,k2,v2,l2,oD,g,g1,g2,g3⟩:=XK hR hl;obtain⟨g',es,c',h1,h2,h3⟩:=PU (hR.bx b _ hB);rw[g2]at h1;cases h1;have hn:es.size=l.length:=by have:=congrArg List.length h3;simpa using this
    refine⟨_,?_,Fx⟩;have Xa:(getObj g).run P w = .ok (Obj.map es c') w:=by simp[getObj,Sem.run,h2]
    simp[execOp,jx,resolve,jI,vk,Js,g3,invoke,builtin,Builtin.len_,qG hE,goInt,Xa,hn]
   ·exact vh
  ·exact vh
 ·exact vh
omit hC in
theorem dj{o:Oper}{c:Call}(jx:o.op = .call c)(jI:c.callee = .builtin .max):ZL P κ M w σ a o (jK Γ o σ):=by
 simp only[jK,jx,jI];split
 ·rename_i x y hx;have vk:c.args=#[x,y]:=by apply yR;rw[hx]
  split
  ·rename_i k p own j q wu hp hq;split
   ·rename_i pN;subst pN;have h1:=YX.1 (Z9 hR hp);have h2:=YX.1 (Z9 hR hq);refine⟨.int k (Kn p q),?_,Fx⟩;simp[execOp,jx,resolve,jI,vk,h1,h2,invoke,builtin,Builtin.max_,Builtin.max2,Kn]
   ·exact vh
  ·exact vh
 ·exact vh
omit hC in
theorem di{o:Oper}{c:Call}(jx:o.op = .call c)(jI:c.callee = .builtin .min):ZL P κ M w σ a o (jK Γ o σ):=by
 simp only[jK,jx,jI];split
 ·rename_i x y hx;have vk:c.args=#[x,y]:=by apply yR;rw[hx]
  split
  ·rename_i k p own j q wu hp hq;split
   ·rename_i pN;subst pN;have h1:=YX.1 (Z9 hR hp);have h2:=YX.1 (Z9 hR hq);refine⟨.int k (dK p q),?_,Fx⟩;simp[execOp,jx,resolve,jI,vk,h1,h2,invoke,builtin,Builtin.min_,Builtin.min2,dK]
   ·exact vh
  ·exact vh
 ·exact vh
omit hR hC in
theorem znw(op:BinOp)(T:TypeId)(x y:Operand)(k j:IntKind)(p q:Int)(w:World):(eqGuard op T x y (.int k p) (.int j q)).run P w = .ok () w:=by
 unfold eqGuard;cases op<;>rfl
omit hC in
theorem y98{o:Oper}{op:BinOp}{T U:TypeId}{x y:Operand}{k:IntKind}{p q:Int}(jx:o.op = .binOp op T x y U)(hx:a.eval x = .int k p)(hy:a.eval y = .int k q):ZL P κ M w σ a o (oa op k p q):=by
  have hg:=znw (P:=P) op T x y k k p q w;cases op<;>unfold oa<;>try exact vh
  all_goals first
    | (intro hc
       have hc:q≠0:=by simpa using hc
       exact⟨_,by simp[execOp,jx,hx,hy,hg,binOp,Op.intDiv,hc],Fx⟩)
    |exact⟨_,by simp[execOp,jx,hx,hy,hg,binOp,Op.intArith,Op.intBits,Op.intCmp],Fx⟩
    |exact⟨_,by simp[execOp,jx,hx,hy,hg,binOp,Op.intArith,Op.intBits,Op.intCmp],Ef⟩
omit hC in
theorem IM{o:Oper}{op:BinOp}{T U:TypeId}{x y:Operand}{k j:IntKind}{p q:Int}(jx:o.op = .binOp op T x y U)(hx:a.eval x = .int k p)(hy:a.eval y = .int j q):ZL P κ M w σ a o (sW op k p q):=by
 have hg:=znw (P:=P) op T x y k j p q w;cases op<;>unfold sW<;>try exact vh
 all_goals
  intro hc;have hc:0≤q:=by simpa using hc
  have hn:¬q<0:=by omega
  exact⟨_,by simp[execOp,jx,hx,hy,hg,binOp,Op.shift,hn],Fx⟩
theorem yc7{o:Oper}{op:BinOp}{T U:TypeId}{x y:Operand}(jx:o.op = .binOp op T x y U):ZL P κ M w σ a o (jK Γ o σ):=by
 simp only[jK,jx];split
 ·rename_i k p own j q wu hp hq;have h1:=YX.1 (Z9 hR hp);have h2:=YX.1 (Z9 hR hq);split
  ·exact IM hR jx h1 h2
  ·exact IM hR jx h1 h2
  ·split
   ·rename_i pN;subst pN;exact y98 hR jx h1 h2
   ·exact vh
 ·rename_i p own q wu hp hq;have h1:=Xj.1 (Z9 hR hp);have h2:=Xj.1 (Z9 hR hq);have hg:∀op,(eqGuard op T x y (.string p) (.string q)).run P w = .ok () w:=by intro op;unfold eqGuard;cases op<;>rfl
  split
  ·intro vQ;have:¬(((p.size+q.size:Nat):Int)>IntKind.i64.max):=by
    simp only[IntKind.max,IntKind.signed,IntKind.bits];simp;omega
   simp only[execOp,jx,h1,h2,qy,hg,qt,binOp,Op.stringOp,qT this,qD]
  ·exact⟨_,by simp only[execOp,jx,h1,h2,qy,hg,qt,binOp,Op.stringOp,qD];rfl,Ef⟩
  ·exact⟨_,by simp only[execOp,jx,h1,h2,qy,hg,qt,binOp,Op.stringOp,qD];rfl,Ef⟩
  ·exact vh
 ·rename_i t p own u q wu hni ah hp hq;split
  ·rename_i t' ht;split
   ·rename_i hc;obtain⟨rfl,hc⟩:=hc;split
    ·rename_i q' Dv;obtain⟨rfl,rfl⟩:=HQ Dv;have h1:=Z9 hR hp;have h2:=Z9 hR hq;have key:(do eqGuard .eql T x y (a.eval x) (a.eval y);binOp .eql T (a.eval x) (a.eval y):Sem Value).run P w = .ok (.bool (u.eqb p q')) w∧(do eqGuard .neq T x y (a.eval x) (a.eval y);binOp .neq T (a.eval x) (a.eval y):Sem Value).run P w = .ok (.bool (!u.eqb p q')) w:=by
      rcases hc with rfl|hc
      ·have hu:=fits_bool (hC.ty T _ ht);have e1:=X8.1 h1;have e2:=X8.1 h2;rw[e1,e2];have he:=run_equal_bool (P:=P) w T p q' hu;constructor
       ·simp only[qy];rw[show(eqGuard .eql T x y (.bool p) (.bool q')).run P w = .ok () w from rfl];simp only[qt,binOp,qy,he,qD];rfl
       ·simp only[qy];rw[show(eqGuard .neq T x y (.bool p) (.bool q')).run P w = .ok () w from rfl];simp only[qt,binOp,qy,he,qD];rfl
      ·exact hC.eq T u hc ht M p q' (a.eval x) (a.eval y) w x y h1 h2
     simp only[qy]at key;split
     ·refine⟨_,?_,Ef⟩;simp only[execOp,jx,qy,key.1,qt,qD]
     ·refine⟨_,?_,Ef⟩;simp only[execOp,jx,qy,key.2,qt,qD]
     ·exact vh
    ·exact vh
   ·exact vh
  ·exact vh
 ·rename_i p own hp hq;split
  ·rename_i ht;have hui:∃ms,P.underlying T=some (.interface ms):=by
    have hf:=hC.ty T _ ht;unfold fits at hf;split at hf
    ·rename_i i d hi hd;simp only[qg]at hf;cases d<;>first|exact⟨_,hd⟩|exact absurd hf.2 yg
    ·cases hf
   obtain⟨ms,pu⟩:=hui;have h1:=Z9 hR hp;unfold jz Qd at h1;simp only[Ty.agg,qA,zp,jB]at h1;obtain⟨v,hv,Q4,Vc⟩:=h1;simp only[qM,zA]at hv;have key:(Op.equal T v .nilIface).run P w = .ok p w∧∀op,(eqGuard op T x (.const .nilIface) v .nilIface).run P w = .ok () w:=by
    cases p with
    |true=>
     rw[Q4 rfl];refine⟨zur pu w,fun op =>?_⟩;unfold eqGuard;cases op<;>simp
    |false=>
     obtain⟨s,u,NM⟩:=Vc rfl;rw[NM];refine⟨zuq pu s u w,fun op =>?_⟩;unfold eqGuard;cases op<;>rfl
   have hb:(binOp .eql T v .nilIface).run P w = .ok (.bool p) w∧(binOp .neq T v .nilIface).run P w = .ok (.bool (!p)) w:=by
    have hk:=key.1;cases p with
    |true=>
     rw[Q4 rfl]at hk⊢;constructor<;>simp only[binOp,qy,hk,qt,qD]
    |false=>
     obtain⟨s,u,NM⟩:=Vc rfl;rw[NM]at hk⊢;constructor<;>simp only[binOp,qy,hk,qt,qD]
   split
   ·refine⟨_,?_,Ef⟩;simp only[execOp,jx,qy,hv,show a.eval (.const .nilIface) = .nilIface from rfl,key.2,qt,hb.1,qD]
   ·refine⟨_,?_,Ef⟩;simp only[execOp,jx,qy,hv,show a.eval (.const .nilIface) = .nilIface from rfl,key.2,qt,hb.2,qD]
   ·exact vh
  ·exact vh
 ·rename_i e l own hp hq;split
  ·rename_i ht;obtain⟨E,hE,ZG⟩:=Fy (hC.ty T _ ht);obtain⟨h1,ho⟩:=XK hR hp;have Xb:P.elem T=E:=by simp[Program.elem,hE]
   split
   ·split
    ·rename_i Bx;obtain⟨off,e2,v,o1,o2,o3,o4⟩:=ho _ _ (IQ Bx);simp only[jN,qb]at o1;subst o1;have hv:a.eval x = .slice none 0 0:=by
      have h2:=HP h1;obtain⟨v',Q4,Vc⟩:=h2;have hve:a.eval x=v':=by
       have h:=Rn h1;rw[Q4]at h;exact h.symm
      rw[Q4]at o3;simp only[zr,qb]at o3;rw[hve,o3];exact o4
     refine⟨.bool true,?_,Ef⟩;simp only[execOp,jx,qy,hv,show a.eval (.const (.slice none 0 0)) = .slice none 0 0 from rfl,eqGuard,zi,qA,zp,qD,qt,Lib.run_eql_slice_nil w T E none 0 0 0 0 hE,Option.isNone_none]
    ·intro hc;unfold jz Qd at h1;simp only[Ty.agg,qA,zp,jB]at h1;obtain⟨v,hv,h1⟩:=h1;simp only[qM,zA]at hv;have Do:∃ad n cap,a.eval x = .slice (some ad) n cap:=by
      rcases h1 with⟨_,rfl⟩|⟨b,off,cap,cells,rfl,_⟩|⟨_,_,_,rfl⟩
      ·cases hc
      ·exact⟨_,_,_,hv⟩
      ·cases hc
     obtain⟨ad,n,cap,hv⟩:=Do;refine⟨.bool false,?_,Ef⟩;simp only[execOp,jx,qy,hv,show a.eval (.const (.slice none 0 0)) = .slice none 0 0 from rfl,eqGuard,zi,qA,zp,qD,qt,Lib.run_eql_slice_nil w T E (some ad) n cap 0 0 hE,Option.isNone_some]
   ·exact vh
  ·exact vh
 ·exact vh
end jA
end Go.Lift
