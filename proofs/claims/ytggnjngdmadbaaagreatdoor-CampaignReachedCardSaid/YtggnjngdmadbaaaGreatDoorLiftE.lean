/-
  Single operations, third part.
-/
import Derived.Test.YtggnjngdmadbaaaGreatDoorLiftD
import Derived.Laws.Small
import Derived.Lib.SliceRun
set_option linter.unusedSectionVars false
set_option linter.unusedVariables false
set_option linter.unusedSimpArgs false
namespace Go.Lift
open Go Go.RowKit
variable [Tab] [Mf]
variable {P:Program} {Γ:Ctx} {base:Nat} {κ:Nat→Option Nat} {M:Mem} {σ:St} {a:Act} {w:World}
theorem zs3:∀ {o:Own} {s:Option Nat},zfk o=some s→([],s)∈o
 |[],_,h=>by cases h
 |([],s)::_,_,h=>by simp only[zfk,qb] at h;subst h;exact List.mem_cons_self
 |(_::_,_)::r,_,h=>by simp only[zfk] at h;exact qo _ (zs3 h)
theorem zck{f:FuncId}(h:Enters P f)(args:Array Value)(w:World):(callFunc f args).run P w = .ok (.enter f args) w:=by
 obtain⟨fn,h1,h2,h3⟩:=h;simp only[callFunc,program,Sem.run_bind,Sem.run,Result.andThen_ok,h1,h3,h2,Bool.false_eq_true,if_false];rfl
theorem y9l{caps:List Cap}{cs:List (Sigma Ty.den)}(h:z7k caps=some cs){bo:Nat→Option Box}:∀ {vs:List Value},zf0 P κ M bo caps vs→∀ {M':Mem},Mem.le M M'→∀(a:Ty) (x:a.den) (u:Value),relV P a M' x u→zg4 P M' (a::cs.map fun c =>.ptr c.1) (zqv a x cs) (u::vs):=by
 induction caps generalizing cs with
 |nil=>
  intro vs hv M' _ a x u hu;simp only[z7k,qb] at h;subst h;simp only[zf0] at hv;subst hv;exact⟨u,rfl,hu⟩
 | cons c r ih=>
  intro vs hv M' hM a x u hu;cases c with
  |inl b=>simp[z7k] at h
  | inr d=>
   simp only[z7k] at h;split at h
   ·rename_i l hl;simp only[qb] at h;subst h;obtain⟨v,rest,rfl,h1,h2⟩:=hv;exact⟨u,v::rest,rfl,hu,ih hl h2 hM (.ptr d.1) d.2 v (z18 hM h1)⟩
   ·cases h
theorem zt9{s:Sig}{cs:List (Sigma Ty.den)}{ta tr:Ty}{φ:ta.den→Option tr.den}(h:zxg s cs ta tr=some φ)(hs:Enters P s.f)(hF:FC P s){caps:List Cap}(hd:z7k caps=some cs){bo:Nat→Option Box}{vs:Array Value}(hv:zf0 P κ M bo caps vs.toList) :
  relV P (.fn ta tr) M φ (.func (.func s.f) #[] vs):=by
 unfold zxg at h;split at h
 ·rename_i h1;split at h
  ·rename_i h2;simp only[qb] at h;subst h;obtain⟨f,ats,rts,run⟩:=s;simp only at h1 h2;subst h1 h2;refine⟨f,#[],vs,rfl,hs,fun M' w x y u hM hG hy hu => ?_⟩;have hargs:=y9l hd hv hM ta x u hu;have:=hF (zqv ta x cs) y hy M' w (u::vs.toList) hG hargs;have e : #[] ++ #[u]++vs=(u::vs.toList).toArray:=by apply Array.ext';simp
   rw[e];exact this
  ·cases h
 ·cases h
section
variable {T:TypeId} {d:TypeDesc}
theorem zqa(n:Nat){ms}(h:P.underlying T=some (.interface ms))(w:World):(Op.equalIn (n+1) T .nilIface .nilIface).run P w = .ok true w:=by
 simp[Op.equalIn,run_underlying h]
theorem zq9(n:Nat){ms}(h:P.underlying T=some (.interface ms))(s:TypeId)(u:Value)(w:World):(Op.equalIn (n+1) T (.iface s u) .nilIface).run P w = .ok false w:=by
 simp[Op.equalIn,run_underlying h]
theorem zu7{ms}(h:P.underlying T=some (.interface ms))(w:World):(Op.equal T .nilIface .nilIface).run P w = .ok true w:=zqa 9999 h w
theorem zu6{ms}(h:P.underlying T=some (.interface ms))(s:TypeId)(u:Value)(w:World):(Op.equal T (.iface s u) .nilIface).run P w = .ok false w:=zq9 9999 h s u w
end
section ops
variable (hR:Rel P base κ M σ a w) (hC:COk P Γ)
include hR hC
theorem zxo{x:Operand}{t:Ty}{y:t.den}(h:St.arg Γ σ x t=some y):relV P t M y (a.eval x):=by
 unfold St.arg at h;split at h
 ·split at h
  ·rename_i g;split at h
   ·rename_i s hs;obtain⟨h1,h2,h3⟩:=hC.sig g s hs;subst h1;exact zt9 (κ:=κ) (bo:=σ.box) (vs := #[]) h h2 h3 (caps:=[]) rfl rfl
   ·cases h
  ·split at h
   ·rename_i g caps hx;split at h
    ·rename_i s cs hs hcs;obtain⟨h1,h2,h3⟩:=hC.sig g s hs;subst h1;obtain⟨vs,hv,hr⟩:=z4i hR hx;rw[hv];exact zt9 h h2 h3 hcs hr
    ·cases h
   ·exact zau hR h
 ·split at h
  ·simp only[qb] at h; subst h;unfold relV z0o;simp only[Ty.agg,Bool.false_eq_true,if_false,relC];exact⟨_,rfl,.inl ⟨rfl,trivial⟩⟩
  ·exact zau hR h
 ·exact zau hR h
theorem zt7:∀(ts:List Ty) (xs:List Operand) (x:Args ts),z69 σ (St.arg Γ σ) ts xs=some x→zg4 P M ts x (xs.map a.eval)
 |[],[],x,_=>rfl
 |[t],[y],x,h=>by
  simp only[z69] at h;exact⟨_,rfl,zxo hR hC h⟩
 | t::u::r,y::ys,x,h=>by
  simp only[z69] at h;split at h
  ·rename_i v hv;split at h
   ·rename_i v' hv';simp only[qb] at h;subst h;exact⟨_,_,rfl,zxo hR hC hv,zt7 (u::r) ys v' hv'⟩
   ·cases h
  ·cases h
 |[],_::_,_,h=>by simp[z69] at h
 |[_],[],_,h=>by simp[z69] at h
 |[_],_::_::_,_,h=>by simp[z69] at h
 |_::_::_,[],_,h=>by simp[z69] at h
theorem y8a{o:Oper}{c:Call}{f:FuncId}(hop:o.op = .call c)(hcal:c.callee = .value (.func f)):z88 P κ M w σ a o (eff Γ o σ):=by
 simp only[eff,hop,hcal];split
 ·rename_i I hI;split
  ·rename_i x y hg hargs;split
   ·rename_i s sep hs hsep;obtain⟨h2,h3⟩:=hC.iters f I hI;have hrun:(execOp a.eval o).run P w = .ok (.enter f (c.args.map a.eval)) w:=by simp[execOp,hop,resolve,hcal,Act.eval,Deferred.ofValue,invoke,zck h2]
    have e1:a.eval x = .string s:=z2s.1 (zau hR hs);have e2:a.eval y = .string sep:=z2s.1 (zau hR hsep);have hm:c.args.map a.eval = #[.string s,.string sep]:=by
     apply Array.ext';rw[Array.toList_map,hargs,List.map_cons,List.map_cons,List.map_nil,e1,e2]
    exact⟨f,_,hrun,by rw[hm];exact h3 s sep M w hR.good⟩
   ·exact z07
  ·exact z07
 split
 ·rename_i s hs;split
  ·rename_i xs hxs;obtain⟨h1,h2,h3⟩:=hC.sig f s hs;have hrun:(execOp a.eval o).run P w = .ok (.enter f (c.args.map a.eval)) w:=by simp[execOp,hop,resolve,hcal,Act.eval,Deferred.ofValue,invoke,zck h2]
   have hargs:zg4 P M s.ats xs (c.args.map a.eval).toList:=by rw[Array.toList_map];exact zt7 hR hC _ _ _ hxs
   subst h1;split
   ·rename_i hn;simp only[qg] at hn;split
    ·rename_i e he;intro l hl;have:=hC.owns _ s hn.2 hs e xs l hl M w _ hR.good hargs;rw[Array.toArray_toList] at this;exact⟨s.f,c.args.map a.eval,hrun,this⟩
    ·exact z07
   split
   ·rename_i hn;simp only[qg] at hn;split
    ·rename_i e he;intro l hl;have:=hC.news _ s hn.1.2 hs e xs l hl M w _ hR.good hargs;rw[Array.toArray_toList] at this;exact⟨s.f,c.args.map a.eval,hrun,this⟩
    ·exact z07
   ·exact⟨c.args.map a.eval,hrun,hargs,h3⟩
  ·exact z07
 ·exact z07
theorem zjs:∀(ts:List Ty) (xs:List Operand) (cs:List (Sigma Ty.den)) (us:List Value) (x:Args ts),z2g σ (St.arg Γ σ) ts xs cs=some x→zf0 P κ M σ.box (cs.map .inr) us→zg4 P M ts x (xs.map a.eval++us)
 |[],[],[],us,x,_,hu=>by have hu:us=[]:=hu;subst hu;rfl
 |[t],[y],[],us,x,h,hu=>by
  have hu:us=[]:=hu;subst hu;simp only[z2g] at h;exact⟨_,rfl,zxo hR hC h⟩
 |[t],[],[c],us,x,h,hu=>by
  obtain⟨v,rest,rfl,h1,h2⟩:=hu;have h2:rest=[]:=h2;subst h2;simp only[z2g] at h;exact⟨v,rfl,zvs h h1⟩
 | t::u::r,y::ys,cs,us,x,h,hu=>by
  simp only[z2g] at h;split at h
  ·rename_i v v' hv hv';simp only[qb] at h;subst h;exact⟨_,_,rfl,zxo hR hC hv,zjs (u::r) ys cs us v' hv' hu⟩
  ·cases h
 | t::u::r,[],c::cs,us,x,h,hu=>by
  obtain⟨v0,rest,rfl,h1,h2⟩:=hu;simp only[z2g] at h;split at h
  ·rename_i v v' hv hv';simp only[qb] at h;subst h;exact⟨_,_,rfl,zvs hv h1,zjs (u::r) [] cs rest v' hv' h2⟩
  ·cases h
 |[],_::_,_,_,_,h,_=>by simp[z2g] at h
 |[],[],_::_,_,_,h,_=>by simp[z2g] at h
 |[_],[],[],_,_,h,_=>by simp[z2g] at h
 |[_],[],_::_::_,_,_,h,_=>by simp[z2g] at h
 |[_],[_],_::_,_,_,h,_=>by simp[z2g] at h
 |[_],_::_::_,_,_,_,h,_=>by simp[z2g] at h
 |_::_::_,[],[],_,_,h,_=>by simp[z2g] at h
omit hR hC in
theorem zq5:∀ {caps:List Cap} {cs:List (Sigma Ty.den)},z7k caps=some cs→caps=cs.map .inr
 |[],cs,h=>by simp only[z7k,qb] at h;subst h;rfl
 | .inr c::r,cs,h=>by
  simp only[z7k] at h;split at h
  ·rename_i l hl;simp only[qb] at h;subst h;rw[zq5 hl];rfl
  ·cases h
 |.inl _::_,_,h=>by simp only[z7k] at h;cases h
theorem y5g{o:Oper}{c:Call}{x:Operand}(hop:o.op = .call c)(hcal:c.callee = .value x)(hx:∀f,x ≠ .func f):z88 P κ M w σ a o (eff Γ o σ):=by
 have:eff Γ o σ=(match σ.opd x,c.args.toList with
   |some (.data (.fn a r) φ _),[y]=>match AVal.get (σ.opd y) a with
    |some v =>.dyn a r φ v
    |none =>.fail
   | some (.clo g caps),ys=>match Γ.sig g,z7k caps with
    |some s,some cs=>match z2g σ (St.arg Γ σ) s.ats ys cs with
     |some xs =>.call s xs
     |none =>.fail
    |_,_ =>.fail
   |_,_ =>.fail):=by
  simp only[eff,hop,hcal];cases x with
  |func f=>exact absurd rfl (hx f)
  |_=>rfl
 rw[this];split
 ·rename_i ta tr φ own y hx' hy;split
  ·rename_i v hv;intro z hz;have h1:=z1c hR hx';unfold relV z0o at h1;simp only[Ty.agg,Bool.false_eq_true,if_false,relC] at h1;obtain⟨g,first,cap,he,hent,hcall⟩:=h1;simp only[List.cons.injEq,and_true] at he;have hargs:c.args = #[y]:=by
    apply Array.ext';rw[hy]
   refine⟨g,first ++ #[a.eval y]++cap,?_,hcall M w v z (a.eval y) (Mem.le_refl M) hR.good hz (zau hR hv)⟩;simp[execOp,hop,resolve,hcal,he,Deferred.ofValue,invoke,zck hent,hargs]
  ·exact z07
 ·rename_i g caps hx';split
  ·rename_i s cs hs hcs;split
   ·rename_i xs hxs;obtain⟨h1,h2,h3⟩:=hC.sig g s hs;obtain⟨vs,he,hcap⟩:=z4i hR hx';rw[zq5 hcs] at hcap;have:=zjs hR hC s.ats c.args.toList cs vs.toList xs hxs hcap;subst h1;refine⟨c.args.map a.eval++vs,?_,by rw[Array.toList_append,Array.toList_map];exact this,h3⟩;simp[execOp,hop,resolve,hcal,he,Deferred.ofValue,invoke,zck h2]
   ·exact z07
  ·exact z07
 ·exact z07
omit hR hC in
theorem zma{k v:Ty}{T:TypeId}(h:fits P (.mapT k v) (.inl T)=true):∃K V,P.underlying T=some (.map K V)∧k.scal=true∧v.scal=true∧fits P k (.inl K)=true∧fits P v (.inl V)=true∧∃i,P.info? V=some i∧y6p v i.zero=true:=by
 unfold fits at h;cases hi:P.info? T with
 |none=>rw[hi] at h;cases h
 | some i=>
  cases hd:P.underlying T with
  |none=>rw[hi,hd] at h;cases h
  |some d=>
   rw[hi,hd] at h;simp only[qg] at h;have h2:=h.2;cases d<;>first|(cases h2;done)|skip
   rename_i K V;simp only[qg] at h2;refine⟨K,V,rfl,h2.1.1.1.1,h2.1.1.1.2,h2.1.1.2,h2.1.2,?_⟩;have h3:=h2.2;cases hv:P.info? V with
   |none=>rw[hv] at h3;cases h3
   |some i'=>rw[hv] at h3;exact⟨i',rfl,h3⟩
omit hR hC in
theorem y1l{κ:Nat→Option Nat}{tk:Nat→Bool}{b:Nat}{tid:TypeId}{k v:Ty}{l:List (k.den×v.den)}{own:Own}(h:RelB P κ M w tk b ⟨tid,.mapT k v,l,own,true⟩) :
  ∃g es c,κ b=some g∧w.heap[g]?=some (.map es c)∧z6i k v l es:=by
 obtain⟨g,h1,h2,⟨cur,E,h3,h4,h5⟩|⟨tid',k',v',l',es,c,h3,h4,h5⟩⟩:=h
 ·exact h4.elim
 ·cases h3;exact⟨g,es,c,h1,h4,h5.1⟩
theorem ok_len{o:Oper}{c:Call}(hop:o.op = .call c)(hcal:c.callee = .builtin .len):z88 P κ M w σ a o (eff Γ o σ):=by
 simp only[eff,hop,hcal];split
 ·rename_i x T hx hT;have hargs:c.args = #[x]:=by apply Array.ext';rw[hx]
  have htys:c.argTypes = #[T]:=by apply Array.ext';rw[hT]
  split
  ·rename_i e l own e' hl ht;obtain⟨E,hE,_⟩:=z56 (hC.ty T _ ht);have hx':=z1c hR hl;unfold relV z0o at hx';simp only[Ty.agg,Bool.false_eq_true,if_false,relC] at hx';obtain⟨v,hv,hx'⟩:=hx';simp only[List.cons.injEq,and_true] at hv;refine⟨_,?_,z8i⟩;rcases hx' with⟨hb,hl⟩|⟨b,off,cap,cells,hb,_⟩|⟨ad,cap,hb,hl⟩
   ·subst hl;simp[execOp,hop,resolve,hcal,hargs,htys,hv,hb,invoke,builtin,Builtin.len_,run_underlying hE,goInt]
   ·simp[execOp,hop,resolve,hcal,hargs,htys,hv,hb,invoke,builtin,Builtin.len_,run_underlying hE,goInt]
   ·subst hl;simp[execOp,hop,resolve,hcal,hargs,htys,hv,hb,invoke,builtin,Builtin.len_,run_underlying hE,goInt]
  ·rename_i s own hl ht;have hu:=zft (hC.ty T _ ht);have hv:=z2s.1 (z1c hR hl);exact⟨_,by simp[execOp,hop,resolve,hcal,hargs,htys,hv,invoke,builtin,Builtin.len_,run_underlying hu,goInt],z8i⟩
  ·rename_i b e' hl ht;obtain⟨E,hE,_⟩:=z56 (hC.ty T _ ht);split
   ·rename_i tid e l own hB;obtain⟨tid',e2,l2,own2,g,cap,g1,g2,_,g3⟩:=z4i hR hl;rw[hB] at g1;simp only[qb,Box.mk.injEq,Ty.slice.injEq] at g1;obtain⟨_,rfl,hl,_,_⟩:=g1;have hl:=eq_of_heq hl;subst hl;exact⟨_,by simp[execOp,hop,resolve,hcal,hargs,htys,g3,invoke,builtin,Builtin.len_,run_underlying hE,goInt],z8i⟩
   ·exact z07
  ·rename_i b kt vt hl ht;split
   ·rename_i tid k v l own hB;obtain⟨K,V,hE,_⟩:=zma (hC.ty T _ ht);obtain⟨tid',k2,v2,l2,own2,g,g1,g2,g3⟩:=z4i hR hl;obtain⟨g',es,c',h1,h2,h3⟩:=y1l (hR.bx b _ hB);rw[g2] at h1;cases h1;have hn:es.size=l.length:=by have:=congrArg List.length h3;simpa using this
    refine⟨_,?_,z8i⟩;have hget:(getObj g).run P w = .ok (Obj.map es c') w:=by simp[getObj,Sem.run,h2]
    simp[execOp,hop,resolve,hcal,hargs,htys,g3,invoke,builtin,Builtin.len_,run_underlying hE,goInt,hget,hn]
   ·exact z07
  ·exact z07
 ·exact z07
omit hC in
theorem ok_max{o:Oper}{c:Call}(hop:o.op = .call c)(hcal:c.callee = .builtin .max):z88 P κ M w σ a o (eff Γ o σ):=by
 simp only[eff,hop,hcal];split
 ·rename_i x y hx;have hargs:c.args = #[x,y]:=by apply Array.ext';rw[hx]
  split
  ·rename_i k p own j q own' hp hq;split
   ·rename_i hkj; subst hkj;have h1:=z1n.1 (z1c hR hp);have h2:=z1n.1 (z1c hR hq);refine⟨.int k (imax p q),?_,z8i⟩;simp[execOp,hop,resolve,hcal,hargs,h1,h2,invoke,builtin,Builtin.max_,Builtin.max2,imax]
   ·exact z07
  ·exact z07
 ·exact z07
omit hC in
theorem ok_min{o:Oper}{c:Call}(hop:o.op = .call c)(hcal:c.callee = .builtin .min):z88 P κ M w σ a o (eff Γ o σ):=by
 simp only[eff,hop,hcal];split
 ·rename_i x y hx;have hargs:c.args = #[x,y]:=by apply Array.ext';rw[hx]
  split
  ·rename_i k p own j q own' hp hq;split
   ·rename_i hkj; subst hkj;have h1:=z1n.1 (z1c hR hp);have h2:=z1n.1 (z1c hR hq);refine⟨.int k (imin p q),?_,z8i⟩;simp[execOp,hop,resolve,hcal,hargs,h1,h2,invoke,builtin,Builtin.min_,Builtin.min2,imin]
   ·exact z07
  ·exact z07
 ·exact z07
omit hR hC in
theorem znb(op:BinOp)(T:TypeId)(x y:Operand)(k j:IntKind)(p q:Int)(w:World):(eqGuard op T x y (.int k p) (.int j q)).run P w = .ok () w:=by
 unfold eqGuard;cases op<;>rfl
omit hC in
theorem y89{o:Oper}{op:BinOp}{T U:TypeId}{x y:Operand}{k:IntKind}{p q:Int}(hop:o.op = .binOp op T x y U)(hx:a.eval x = .int k p)(hy:a.eval y = .int k q):z88 P κ M w σ a o (y3w op k p q):=by
  have hg:=znb (P:=P) op T x y k k p q w;cases op<;>unfold y3w<;>try exact z07
  all_goals first
    | (intro hc
       have hc:q≠0:=by simpa using hc
       exact⟨_,by simp[execOp,hop,hx,hy,hg,binOp,Op.intDiv,hc],z8i⟩)
    |exact⟨_,by simp[execOp,hop,hx,hy,hg,binOp,Op.intArith,Op.intBits,Op.intCmp],z8i⟩
    |exact⟨_,by simp[execOp,hop,hx,hy,hg,binOp,Op.intArith,Op.intBits,Op.intCmp],z6w⟩
omit hC in
theorem zs6{o:Oper}{op:BinOp}{T U:TypeId}{x y:Operand}{k j:IntKind}{p q:Int}(hop:o.op = .binOp op T x y U)(hx:a.eval x = .int k p)(hy:a.eval y = .int j q):z88 P κ M w σ a o (zqr op k p q):=by
 have hg:=znb (P:=P) op T x y k j p q w;cases op<;>unfold zqr<;>try exact z07
 all_goals
  intro hc;have hc:0≤q:=by simpa using hc
  have hn:¬q < 0:=by omega
  exact⟨_,by simp[execOp,hop,hx,hy,hg,binOp,Op.shift,hn],z8i⟩
theorem yb4{o:Oper}{op:BinOp}{T U:TypeId}{x y:Operand}(hop:o.op = .binOp op T x y U):z88 P κ M w σ a o (eff Γ o σ):=by
 simp only[eff,hop];split
 ·rename_i k p own j q own' hp hq;have h1:=z1n.1 (z1c hR hp);have h2:=z1n.1 (z1c hR hq);split
  ·exact zs6 hR hop h1 h2
  ·exact zs6 hR hop h1 h2
  ·split
   ·rename_i hkj;subst hkj;exact y89 hR hop h1 h2
   ·exact z07
 ·rename_i p own q own' hp hq;have h1:=z2s.1 (z1c hR hp);have h2:=z2s.1 (z1c hR hq);have hg:∀op,(eqGuard op T x y (.string p) (.string q)).run P w = .ok () w:=by intro op;unfold eqGuard;cases op<;>rfl
  split
  ·intro hsz;have:¬(((p.size+q.size:Nat):Int) > IntKind.i64.max):=by
    simp only[IntKind.max,IntKind.signed,IntKind.bits];simp;omega
   simp only[execOp,hop,h1,h2,Sem.run_bind,hg,Result.andThen_ok,binOp,Op.stringOp,if_neg this,Sem.run_pure]
  ·exact⟨_,by simp only[execOp,hop,h1,h2,Sem.run_bind,hg,Result.andThen_ok,binOp,Op.stringOp,Sem.run_pure];rfl,z6w⟩
  ·exact⟨_,by simp only[execOp,hop,h1,h2,Sem.run_bind,hg,Result.andThen_ok,binOp,Op.stringOp,Sem.run_pure];rfl,z6w⟩
  ·exact z07
 ·rename_i t p own u q own' hni hns hp hq;split
  ·rename_i t' ht;split
   ·rename_i hc;obtain⟨rfl,hc⟩:=hc;split
    ·rename_i q' hq';obtain⟨rfl,rfl⟩:=z3e hq';have h1:=z1c hR hp;have h2:=z1c hR hq;have key:(do eqGuard .eql T x y (a.eval x) (a.eval y);binOp .eql T (a.eval x) (a.eval y):Sem Value).run P w = .ok (.bool (u.eqb p q')) w∧(do eqGuard .neq T x y (a.eval x) (a.eval y);binOp .neq T (a.eval x) (a.eval y):Sem Value).run P w = .ok (.bool (!u.eqb p q')) w:=by
      rcases hc with rfl|hc
      ·have hu:=fits_bool (hC.ty T _ ht);have e1:=z2f.1 h1;have e2:=z2f.1 h2;rw[e1,e2];have he:=run_equal_bool (P:=P) w T p q' hu;constructor
       ·simp only[Sem.run_bind];rw[show(eqGuard .eql T x y (.bool p) (.bool q')).run P w = .ok () w from rfl];simp only[Result.andThen_ok,binOp,Sem.run_bind,he,Sem.run_pure];rfl
       ·simp only[Sem.run_bind];rw[show(eqGuard .neq T x y (.bool p) (.bool q')).run P w = .ok () w from rfl];simp only[Result.andThen_ok,binOp,Sem.run_bind,he,Sem.run_pure];rfl
      ·exact hC.eq T u hc ht M p q' (a.eval x) (a.eval y) w x y h1 h2
     simp only[Sem.run_bind] at key;split
     ·refine⟨_,?_,z6w⟩;simp only[execOp,hop,Sem.run_bind,key.1,Result.andThen_ok,Sem.run_pure]
     ·refine⟨_,?_,z6w⟩;simp only[execOp,hop,Sem.run_bind,key.2,Result.andThen_ok,Sem.run_pure]
     ·exact z07
    ·exact z07
   ·exact z07
  ·exact z07
 ·rename_i p own hp hq;split
  ·rename_i ht;have hui:∃ms,P.underlying T=some (.interface ms):=by
    have hf:=hC.ty T _ ht;unfold fits at hf;split at hf
    ·rename_i i d hi hd;simp only[qg] at hf;cases d<;>first|exact⟨_,hd⟩|exact absurd hf.2 Bool.false_ne_true
    ·cases hf
   obtain⟨ms,hms⟩:=hui;have h1:=z1c hR hp;unfold relV z0o at h1;simp only[Ty.agg,Bool.false_eq_true,if_false,relC] at h1;obtain⟨v,hv,hv1,hv2⟩:=h1;simp only[List.cons.injEq,and_true] at hv;have key:(Op.equal T v .nilIface).run P w = .ok p w∧∀op,(eqGuard op T x (.const .nilIface) v .nilIface).run P w = .ok () w:=by
    cases p with
    |true=>
     rw[hv1 rfl];refine⟨zu7 hms w,fun op => ?_⟩;unfold eqGuard;cases op<;>simp
    |false=>
     obtain⟨s,u,hsu⟩:=hv2 rfl;rw[hsu];refine⟨zu6 hms s u w,fun op => ?_⟩;unfold eqGuard;cases op<;>rfl
   have hb:(binOp .eql T v .nilIface).run P w = .ok (.bool p) w∧(binOp .neq T v .nilIface).run P w = .ok (.bool (!p)) w:=by
    have hk:=key.1;cases p with
    |true=>
     rw[hv1 rfl] at hk⊢;constructor<;>simp only[binOp,Sem.run_bind,hk,Result.andThen_ok,Sem.run_pure]
    |false=>
     obtain⟨s,u,hsu⟩:=hv2 rfl;rw[hsu] at hk⊢;constructor<;>simp only[binOp,Sem.run_bind,hk,Result.andThen_ok,Sem.run_pure]
   split
   ·refine⟨_,?_,z6w⟩;simp only[execOp,hop,Sem.run_bind,hv,show a.eval (.const .nilIface) = .nilIface from rfl,key.2,Result.andThen_ok,hb.1,Sem.run_pure]
   ·refine⟨_,?_,z6w⟩;simp only[execOp,hop,Sem.run_bind,hv,show a.eval (.const .nilIface) = .nilIface from rfl,key.2,Result.andThen_ok,hb.2,Sem.run_pure]
   ·exact z07
  ·exact z07
 ·rename_i e l own hp hq;split
  ·rename_i ht;obtain⟨E,hE,hfE⟩:=z56 (hC.ty T _ ht);obtain⟨h1,ho⟩:=z4i hR hp;have hel:P.elem T=E:=by simp[Program.elem,hE]
   split
   ·split
    ·rename_i hto;obtain⟨off,e2,v,o1,o2,o3,o4⟩:=ho _ _ (zs3 hto);simp only[offV,qb] at o1;subst o1;have hv:a.eval x = .slice none 0 0:=by
      have h2:=z41 h1;obtain⟨v',hv1,hv2⟩:=h2;have hve:a.eval x=v':=by
       have h:=zhg h1;rw[hv1] at h;exact h.symm
      rw[hv1] at o3;simp only[List.getElem?_cons_zero,qb] at o3;rw[hve,o3];exact o4
     refine⟨.bool true,?_,z6w⟩;simp only[execOp,hop,Sem.run_bind,hv,show a.eval (.const (.slice none 0 0)) = .slice none 0 0 from rfl,eqGuard,Bool.not_true,Bool.false_eq_true,if_false,Sem.run_pure,Result.andThen_ok,Lib.run_eql_slice_nil w T E none 0 0 0 0 hE,Option.isNone_none]
    ·intro hc;unfold relV z0o at h1;simp only[Ty.agg,Bool.false_eq_true,if_false,relC] at h1;obtain⟨v,hv,h1⟩:=h1;simp only[List.cons.injEq,and_true] at hv;have hsome:∃ad n cap,a.eval x = .slice (some ad) n cap:=by
      rcases h1 with⟨_,rfl⟩|⟨b,off,cap,cells,rfl,_⟩|⟨_,_,_,rfl⟩
      ·cases hc
      ·exact⟨_,_,_,hv⟩
      ·cases hc
     obtain⟨ad,n,cap,hv⟩:=hsome;refine⟨.bool false,?_,z6w⟩;simp only[execOp,hop,Sem.run_bind,hv,show a.eval (.const (.slice none 0 0)) = .slice none 0 0 from rfl,eqGuard,Bool.not_true,Bool.false_eq_true,if_false,Sem.run_pure,Result.andThen_ok,Lib.run_eql_slice_nil w T E (some ad) n cap 0 0 hE,Option.isNone_some]
   ·exact z07
  ·exact z07
 ·exact z07
end ops
end Go.Lift
