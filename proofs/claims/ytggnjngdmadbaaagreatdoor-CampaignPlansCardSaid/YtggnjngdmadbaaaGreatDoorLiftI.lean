/-
  What the evaluator computes of code and of functions, these do.
-/
import Derived.Test.YtggnjngdmadbaaaGreatDoorLiftM
import Derived.LoopNIn
set_option linter.all false
abbrev xD:=@Go.roundsIn_succ
abbrev xP:=@Go.wpIn_loop_rounds
namespace Go.Lift
open Go Go.RowKit
variable [wB] [Mf]
variable {P:Program} {Γ:QW} {base:Nat} {κ κ' κ2:Nat→Option Nat} {M M':Mem} {σ σ0 τ σ' τ':St} {a a':Act} {w w':World}
def YM:Ex→Exit
 |.normal =>.normal
 |.exit id =>.exit id
 |.ret =>.ret
theorem Cc(hR:jW P base κ M σ a w)(h1:τ.env=σ.env)(h2:τ.box=σ.box)(h3:τ.tok=σ.tok):jW P base κ M τ a w:=by
 refine⟨?_,?_,hR.good,hR.inj,hR.kap,?_,hR.low⟩
 ·rw[h1,h2,h3];exact hR.env
 ·rw[h2,h3];exact hR.bx
 ·rw[h2,h3];exact hR.dis
theorem lZ{W:List Nat}{σ1 σ2:St}(h:Fr base W κ M σ0 a w κ' M' σ1 a' w')(h0:σ0.box=σ.box)(h1:σ2.box=σ1.box)(h2:∀i,σ2.dirty i=false→σ.dirty i=false∧σ1.dirty i=false):
  Fr base W κ M σ a w κ' M' σ2 a' w':=
 ⟨h.below,h.le,h.mem,h.size,h.defers,h.tmps,fun i hi hd=>⟨(h2 i hd).1,(h.ids i hi (h2 i hd).2).2⟩,fun i hi B hB=>by
  have:=h.bx i hi B (by rw[←h1];exact hB);rw[h0]at this;exact this,h.oth,h.same⟩
theorem sU{W V:List Nat}{L:Desc}{κ1:Nat→Option Nat}{M1:Mem}{a1:Act}{w1:World}(h0:∀i,σ0.dirty i=false)(h:Fr base W κ M σ0 a w κ1 M1 (τ.back σ0 L) a1 w1)(hk:Fr base V κ1 M1 τ a1 w1 κ' M' σ' a' w')(hV:∀s,s∈V→s∈W):
  Fr base W κ M σ0 a w κ' M' (σ'.soil L.gone) a' w':=by
 have VR:Fr base V κ1 M1 (τ.back σ0 L) a1 w1 κ' M' (σ'.soil L.gone) a' w':=by
  refine⟨hk.below,hk.le,hk.mem,hk.size,hk.defers,hk.tmps,fun i hi hd =>?_,fun i hi B hB=>hk.bx i hi B hB,hk.oth,hk.same⟩;simp only[St.soil,zX]at hd;refine⟨?_,(hk.ids i hi hd.2).2⟩;have:=hd.1;unfold Desc.gone at this;simp only[St.back,h0 i,this];rfl
 exact h.trans VR (fun s hs=>hs) hV
theorem y26(h1:σ.env=τ.env)(h2:σ.box=τ.box)(i:It):Fq σ i=Fq τ i:=by unfold Fq;rw[h1,h2]
theorem IH(h1:σ.env=τ.env)(h2:σ.box=τ.box)(i:It):D2 σ i=D2 τ i:=by unfold D2;rw[h1,h2]
theorem LS(h1:σ.env=τ.env)(h2:σ.box=τ.box):∀l,JV σ l=JV τ l
 |[]=>rfl
 |i::r=>by simp only[JV,y26 h1 h2,LS h1 h2 r]
theorem LU(h1:σ.env=τ.env)(h2:σ.box=τ.box):∀l,Lift.grab σ l=Lift.grab τ l
 |[]=>rfl
 |[i]=>IH h1 h2 i
 |i::j::r=>by simp only[Lift.grab,IH h1 h2,LU h1 h2 (j::r)]
theorem TC(σ τ:St)(h1:σ.env=τ.env)(h2:σ.box=τ.box)(L:Desc):L.grab0 σ=L.grab0 τ:=by
 unfold Desc.grab0 PI;rw[LS h1 h2,LU h1 h2]
theorem tg{L:Desc}{s:L.den}(h:L.grab σ=some s):(∀b,b∈L.kb→σ.dirty b=false)∧L.grab0 σ=some s:=by
 unfold Desc.grab at h;split at h
 ·rename_i hk;refine⟨fun b hb =>?_,h⟩;have:=qW.1 hk b hb;simpa using this
 ·cases h
theorem UM{S R:Type}{f:S→Option (S⊕R)}{s:S}{r:R}(h:vz f s=some r):∃n,V6 f n s=some r:=by
 unfold vz at h;split at h
 ·rename_i hx;simp only[qb]at h;subst h;exact⟨_,yu (yu hx)⟩
 ·cases h
structure ZH (P:Program) (base:Nat) (L:Desc) (σ:St) (ws:List Nat) (κ:Nat→Option Nat) (M:Mem) (a:Act) (w:World) (s:L.den) (κ1:Nat→Option Nat) (M1:Mem) (a1:Act) (w1:World):Prop where
 rel:jW P base κ1 M1 (L.put σ ws s) a1 w1
 fr:Fr base ws κ M {σ with dirty:=fun _=>false} a w κ1 M1 ((L.put σ ws s).back {σ with dirty:=fun _=>false} L) a1 w1
theorem II(hR:jW P base κ M σ a w){L:Desc}{ws:List Nat}(jP:L.ok σ ws=true){s:L.den}(hg:L.grab0 σ=some s):∃κ1,ZH P base L σ ws κ M a w s κ1 M a w∧uV L σ.tok κ κ1:=by
 have YU:L.grab0 {σ with dirty:=fun _=>false}=some s:=by rw[←hg];exact TC {σ with dirty:=fun _=>false} σ rfl rfl L
 obtain⟨κ1,h1,h2,h3⟩:=mC (σ0:={σ with dirty:=fun _=>false}) hR (oH jP) (Cc hR (τ:={σ with dirty:=fun _=>false}) rfl rfl rfl) rfl (Fr.refl (W:=ws)) (fun _ _=>rfl) YU;exact⟨κ1,⟨h1,h2⟩,h3⟩
theorem tJ(hR:jW P base κ M σ a w){L:Desc}{ws:List Nat}(jP:L.ok σ ws=true){s:L.den}(hg:L.grab0 σ=some s):∃κ1,ZH P base L σ ws κ M a w s κ1 M a w:=by
 obtain⟨κ1,h,_⟩:=II hR jP hg;exact⟨κ1,h⟩
theorem LW(hR:jW P base κ M σ a w){L:Desc}{ws:List Nat}(jP:L.ok σ ws=true){s s':L.den}{κ1:Nat→Option Nat}{M1:Mem}{a1:Act}{w1:World}
  (hH:ZH P base L σ ws κ M a w s κ1 M1 a1 w1) (j4:jW P base κ' M' σ' a' w') (hF:Fr base ws κ1 M1 (L.put σ ws s) a1 w1 κ' M' σ' a' w') (hg:L.grab σ'=some s'):
  ∃κ2,ZH P base L σ ws κ M a w s' κ2 M' a' w'∧uV L σ'.tok κ' κ2:=by
 obtain⟨hd,Ws⟩:=tg hg;have wL:=sU (fun _=>rfl) hH.fr hF (fun _ h=>h);have YU:L.grab0 (σ'.soil L.gone)=some s':=by rw[←Ws];exact TC (σ'.soil L.gone) σ' rfl rfl L
 obtain⟨κ2,h1,h2,h3⟩:=mC (σ0:={σ with dirty:=fun _=>false}) hR (oH jP) (Cc j4 (τ:=σ'.soil L.gone) rfl rfl rfl) rfl wL (fun b hb=>by
  simp only[St.soil,Desc.gone,Ce.2 hb,hd b hb];rfl) YU
 exact⟨κ2,⟨h1,h2⟩,h3⟩
theorem Uk(hR:jW P base κ M σ a w){L:Desc}{ws:List Nat}(jP:L.ok σ ws=true){s s':L.den}{κ1:Nat→Option Nat}{M1:Mem}{a1:Act}{w1:World}
  (hH:ZH P base L σ ws κ M a w s κ1 M1 a1 w1) (j4:jW P base κ' M' σ' a' w') (hF:Fr base ws κ1 M1 (L.put σ ws s) a1 w1 κ' M' σ' a' w') (hg:L.grab σ'=some s'):
  ∃κ2,ZH P base L σ ws κ M a w s' κ2 M' a' w':=by
 obtain⟨κ2,h,_⟩:=LW hR jP hH j4 hF hg;exact⟨κ2,h⟩
theorem y0c(hR:jW P base κ M σ a w){L B:Desc}{ws:List Nat}(jP:B.ok σ ws=true){s:L.den}{b:B.den}{κ1:Nat→Option Nat}{M1:Mem}{a1:Act}{w1:World}
  (hH:ZH P base L σ ws κ M a w s κ1 M1 a1 w1) (j4:jW P base κ' M' σ' a' w') (hF:Fr base ws κ1 M1 (L.put σ ws s) a1 w1 κ' M' σ' a' w') (hg:B.grab (σ'.soil L.gone)=some b):
  ∃κ2,jW P base κ2 M' ((B.put σ ws b).back σ B) a' w'∧Fr base ws κ M σ a w κ2 M' ((B.put σ ws b).back σ B) a' w':=by
 obtain⟨hd,Ws⟩:=tg hg;have wL:=sU (fun _=>rfl) hH.fr hF (fun _ h=>h);obtain⟨κ2,h1,h2,_⟩:=mC (σ0:={σ with dirty:=fun _=>false}) hR (oH jP) (Cc j4 (τ:=σ'.soil L.gone) rfl rfl rfl) rfl wL hd Ws;refine⟨κ2,Cc h1 rfl rfl rfl,lZ h2 rfl rfl fun i hi =>?_⟩;simp only[St.back,zX]at hi⊢;exact⟨hi.1,(by trivial),hi.2⟩
theorem bA{L:Desc}{ws:List Nat}{s:L.den}{κ1:Nat→Option Nat}{M1:Mem}{a1:Act}{w1:World}
  (hH:ZH P base L σ ws κ M a w s κ1 M1 a1 w1) (j4:jW P base κ' M' σ' a' w') (hF:Fr base ws κ1 M1 (L.put σ ws s) a1 w1 κ' M' σ' a' w'):
  jW P base κ' M' (σ'.soil fun b=>σ.dirty b||L.gone b) a' w'∧Fr base ws κ M σ a w κ' M' (σ'.soil fun b=>σ.dirty b||L.gone b) a' w':=by
 have wL:=sU (fun _=>rfl) hH.fr hF (fun _ h=>h);refine⟨Cc j4 rfl rfl rfl,lZ wL rfl rfl fun i hi =>?_⟩;simp only[St.soil,zX]at hi⊢;exact⟨hi.1.1,hi.1.2,hi.2⟩
theorem yfn{V:List Nat}{g:Nat→Bool}(h:Fr base V κ M σ a w κ' M' σ' a' w'):Fr base V κ M (σ.soil g) a w κ' M' (σ'.soil g) a' w':=by
 refine⟨h.below,h.le,h.mem,h.size,h.defers,h.tmps,fun i hi hd =>?_,h.bx,h.oth,h.same⟩;simp only[St.soil,zX]at hd⊢;obtain⟨d1,d2⟩:=h.ids i hi hd.2;exact⟨⟨hd.1,d1⟩,d2⟩
theorem y6t(hR:jW P base κ M σ a w){L:Desc}{ws:List Nat}(jP:L.ok σ ws=true){s':L.den}(j4:jW P base κ' M' σ' a' w')(hF:Fr base ws κ M {σ with dirty:=fun _=>false} a w κ' M' (σ'.soil L.gone) a' w')(hg:L.grab σ'=some s'):
  ∃κ2,ZH P base L σ ws κ M a w s' κ2 M' a' w':=by
 obtain⟨hd,Ws⟩:=tg hg;have YU:L.grab0 (σ'.soil L.gone)=some s':=by rw[←Ws];exact TC (σ'.soil L.gone) σ' rfl rfl L
 obtain⟨κ2,h1,h2,_⟩:=mC (σ0:={σ with dirty:=fun _=>false}) hR (oH jP) (Cc j4 (τ:=σ'.soil L.gone) rfl rfl rfl) rfl hF (fun b hb=>by
  simp only[St.soil,Desc.gone,Ce.2 hb,hd b hb];rfl) YU
 exact⟨κ2,h1,h2⟩
theorem y9u{L:Desc}{ws:List Nat}(j4:jW P base κ' M' σ' a' w')(hF:Fr base ws κ M {σ with dirty:=fun _=>false} a w κ' M' (σ'.soil L.gone) a' w'):
  jW P base κ' M' (σ'.soil fun b=>σ.dirty b||L.gone b) a' w'∧Fr base ws κ M σ a w κ' M' (σ'.soil fun b=>σ.dirty b||L.gone b) a' w':=by
 refine⟨Cc j4 rfl rfl rfl,lZ hF rfl rfl fun i hi =>?_⟩;simp only[St.soil,zX]at hi⊢;exact⟨hi.1.1,hi.1.2,hi.2⟩
theorem rounds{L:Desc}{ws:List Nat}{c:Code}{F:Fence}{n:Nat}{Q:Exit→Act→World→Prop}{R:Type}{f:L.den→Option (L.den⊕R)}{r:R}
  (QB:∀s x κ1 M1 a1 w1,ZH P base L σ ws κ M a w s κ1 M1 a1 w1→f s=some x→∀(K:Act→World→Prop),
   (∀s' κ2 M2 a2 w2,x = .inl s'→ZH P base L σ ws κ M a w s' κ2 M2 a2 w2→K a2 w2)→(∀r',x = .inr r'→r'=r)→c.wpIn F n P (Exit.then K Q) a1 w1):
  ∀m s κ1 M1 a1 w1,V6 f m s=some r→ZH P base L σ ws κ M a w s κ1 M1 a1 w1→Code.roundsIn F n P c Q m a1 w1
 |0,_,_,_,_,_,h,_=>by simp[V6]at h
 | m+1,s,κ1,M1,a1,w1,h,hH=>by
  simp only[V6]at h;rw[xD];split at h
  ·rename_i s' hf;refine QB s _ κ1 M1 a1 w1 hH hf _ (fun s2 κ2 M2 a2 w2 he EC =>?_) (fun r' he=>by cases he);cases he;exact rounds QB m s' κ2 M2 a2 w2 h EC
  ·rename_i r' hf;simp only[qb]at h;subst h;exact QB s _ κ1 M1 a1 w1 hH hf _ (fun s2 κ2 M2 a2 w2 he EC=>by cases he) (fun r'' he=>by cases he;rfl)
  ·cases h
theorem ng{X S R:Type}{f:X→S→Option (S⊕R)}:∀{l m:List X} {s:S},Vm f (l++m) s=(Vm f l s).bind fun j=>match j with
  |.inl s'=>Vm f m s'
  |.inr r=>some (.inr r)
 |[],_,_=>rfl
 | x::l,m,s=>by
  simp only[qS,Vm];cases f x s with
  |none=>rfl
  |some j=>
   cases j with
   |inl s'=>exact ng
   |inr r=>rfl
theorem zz8{g:Operand}{ps:Array Tmp}{e:Ty}{xs:List e.den}{p:Nat}(h:Va σ g ps=some ⟨e,xs,p⟩):
  ∃(q:Nat) (own:Own),g = .tmp q∧ps.toList=[p]∧σ.env q=some (.data (.seq e) xs own):=by
 unfold Va at h;split at h
 ·rename_i q p0 Zr;split at h
  ·rename_i e0 xs0 own he;simp only[qb,Sigma.mk.injEq]at h;obtain⟨rfl,h⟩:=h;have h:=eq_of_heq h;simp only[qX]at h;obtain⟨rfl,rfl⟩:=h;exact⟨q,own,rfl,Zr,he⟩
  ·cases h
 ·cases h
theorem y8i{e:Ty}(h:e.scal=true){M:Mem}{x:e.den}:jz P e M x (encS e x):=by
 cases e<;>first|rfl|cases h
theorem Ai{row:Option Nat}(HA:∀k,row=some k→Mf.on=true→∀es c,w.heap[k]?≠some (.map es c))(hR:jW P base κ M σ a w)(hg:w.grownBy w' row)(hr:∀k,row=some k→∃o:Obj,w.heap[k]?=some o∧o.isCells=false):jW P base κ M σ a w':=by
 have hk:∀{g:Nat} {c:Array Value} {E:TypeId} {fr:Nat×Nat},w.heap[g]?=some (.cells c E fr)→w'.heap[g]?=some (.cells c E fr):=fun{g c E fr} hc=>
  (grownBy_keeps_cells hg hr hc rfl).trans hc
 have hv:∀{tk:Nat→Bool} {size:Nat} {s:Option Nat} {v:Value},OwnV κ M w tk size s v→OwnV κ M w' tk size s v:=fun{tk size s v} h=>by
  cases s with
  |none=>exact h
  |some k=>
   obtain⟨h0,h⟩:=h;refine⟨h0,h.imp id ?_⟩;rintro⟨g,n,cap,h1,h2,jT,E,b1,b2⟩;exact⟨g,n,cap,h1,h2,jT,E,hk b1,b2⟩
 have ho:∀{tk:Nat→Bool} {t:Ty} {cs:List Value} {own:Own},z93 κ M w tk t cs own→z93 κ M w' tk t cs own:=fun{tk t cs own} h p s hm=>by
  obtain⟨off,e,v,a,b,c,d⟩:=h p s hm;exact⟨off,e,v,a,b,c,hv d⟩
 refine⟨fun s v hs =>?_,fun b B hB =>?_,⟨wB.keep (w:=w) (Mem.le_refl M) (fun j c t fr hc=>⟨c,fr,hk hc,rfl⟩) hR.good.1,fun b o x hx=>cell_kept (hR.good.2 b o x hx) hg hr⟩,hR.inj,fun i g hi=>⟨(hR.kap i g hi).1,qV (hR.kap i g hi).2 hg.size⟩,hR.dis,ze hR.low hg.size⟩
 ·have:=hR.env s v hs;cases v with
  |data t x own=>exact⟨this.1,ho this.2⟩
  |bptr b p=>exact this
  |rowp b=>exact this
  |mapp b=>exact this
  |iter b e F=>exact this
  |tup ts x=>exact this
  |clo g caps=>exact this
  |undef=>exact this
  |raw _=>exact this
 ·obtain⟨g,h1,h5,⟨jT,E,h2,h3,h4⟩|⟨tid,kt,vt,l,es,c,rfl,h2,h3⟩⟩:=hR.bx b B hB
  ·exact .mk h1 (hk h2) h3 (ho h4) h5
  ·exact⟨g,h1,h5,.inr ⟨tid,kt,vt,l,es,c,rfl,(hg.block g (qd.1 h2).1 fun e=>HA g e.symm h3.2 es c h2).trans h2,h3⟩⟩
theorem n7{W:List Nat}{row:Option Nat}{iW:World}(hR:jW P base κ M τ a w)(hF:Fr base W κ M σ a w κ' M' σ' a w')(hg:w'.grownBy iW row)(hr:∀k,row=some k→w.heap.size≤k):Fr base W κ M σ a w κ' M' σ' a iW:=by
 have hb:∀k,k<w.heap.size→iW.heap[k]?=w'.heap[k]?:=fun k hk=>hg.block k (qV hk hF.below.size) (fun e=>by have:=hr k e.symm;omega)
 refine⟨hF.below.grown hg (ze hR.low hF.below.size) (fun k e=>ze hR.low (hr k e)),hF.le,hF.mem,rfl,.of_eq rfl,fun _ _=>rfl,fun i hi hd =>?_,hF.bx,fun j o hj ho =>?_,.of (fun j hj hn=>(hb j hj).trans (hF.same.frame j hj hn)) hF.same.src hF.same.mem⟩
 ·obtain⟨d,e1,e2⟩:=hF.ids i hi hd;exact⟨d,e1,fun g YU=>⟨(hb g (hR.kap i g YU).2).trans (e2 g YU).1,(e2 g YU).2⟩⟩
 ·rw[hb j (qd.1 hj).1];exact hF.oth j o hj ho
theorem Ah{b:Act}(hR:jW P base κ M σ a w)(h:∀s v,σ.env s=some v→b.tmps.getD s undef=a.tmps.getD s undef):jW P base κ M σ b w:=
 ⟨fun s v hs=>by rw[h s v hs];exact hR.env s v hs,hR.bx,hR.good,hR.inj,hR.kap,hR.dis,hR.low⟩
theorem PH{W:List Nat}{b:Act}(h:Fr base W κ M σ a w κ' M' σ' a' w'):Fr base W κ M σ b w κ' M' σ' b w':=
 ⟨h.below,h.le,h.mem,rfl,.of_eq rfl,fun _ _=>rfl,h.ids,h.bx,h.oth,h.same⟩
theorem ybn{b:Act}{s:Nat}{e:Ty}{x:e.den}(hs:e.scal=true)(hR:jW P base κ M σ a w)(h:∀i v,i≠s→σ.env i=some v→b.tmps.getD i undef=a.tmps.getD i undef)(hb:b.tmps.getD s undef=encS e x):
  jW P base κ M (σ.setD s e x) b w:=by
 refine⟨fun i v hi =>?_,hR.bx,hR.good,hR.inj,hR.kap,hR.dis,hR.low⟩;by_cases e:i=s
 ·subst e;simp only[St.setD,jy,qb]at hi;subst hi;rw[hb];exact⟨y8i hs,WJ⟩
 ·simp only[St.setD]at hi;rw[vN _ _ _ _ e]at hi;rw[h i v e hi];exact hR.env i v hi
theorem y3x{b:Act}{s:Nat}{e:Ty}{x:e.den}{u:Value}(hu:jz P e M x u)(hR:jW P base κ M σ a w)(h:∀i v,i≠s→σ.env i=some v→b.tmps.getD i undef=a.tmps.getD i undef)(hb:b.tmps.getD s undef=u):
  jW P base κ M (σ.setD s e x) b w:=by
 refine⟨fun i v hi =>?_,hR.bx,hR.good,hR.inj,hR.kap,hR.dis,hR.low⟩;by_cases e:i=s
 ·subst e;simp only[St.setD,jy,qb]at hi;subst hi;rw[hb];exact⟨hu,WJ⟩
 ·simp only[St.setD]at hi;rw[vN _ _ _ _ e]at hi;rw[h i v e hi];exact hR.env i v hi
theorem Uu{ws:List Nat}(hR:jW P base κ M σ a w):jW P base κ M (σ.clear ws) a w:=by
 refine⟨fun s v hs =>?_,hR.bx,hR.good,hR.inj,hR.kap,hR.dis,hR.low⟩;simp only[St.clear]at hs;split at hs
 ·cases hs
 ·exact hR.env s v hs
theorem Uf{ws:List Nat}{s:Nat}{v:AVal}(h:(σ.clear ws).env s=some v):s∉ws:=by
 simp only[St.clear]at h;split at h
 ·cases h
 ·rename_i hn;intro hm;exact hn (zI.2 ⟨s,hm,ym s⟩)
theorem y41:∀(l:List It) (τ:St) (x:vx (l.map (·.t))),(l.all (·.isBox))=true→(put τ l x).env=τ.env
 |[],_,_,_=>rfl
 |[i],τ,x,h=>by
  simp only[kr,List.all_nil,Bool.and_true]at h;simp only[put,Y3,h]
 |i::j::r,τ,x,h=>by
  rw[kr,qg]at h;simp only[put];rw[y41 (j::r) _ _ h.2];simp only[Y3,h.1]
theorem yev{L:Desc}{ws:List Nat}{s:L.den}(hb:L.boxy=true){i:Nat}{v:AVal}(h:(L.put σ ws s).env i=some v):i∉ws:=by
 unfold Desc.put at h;rw[y41 _ _ _ hb]at h;simp only[St.base]at h;split at h
 ·cases h
 ·rename_i hn;intro hm;exact hn (zI.2 ⟨i,hm,ym i⟩)
def codeOf:Ex→Code
 |.normal =>.skip
 |.exit i =>.exit i
 |.ret =>.ret
theorem nj{a:Array Value}{i:Nat}{v:Value}(h:i<a.size):(a.setIfInBounds i v).getD i undef=v:=by
 simp[h]
theorem AI{a:Array Value}{i j:Nat}{v:Value}(h:i≠j):(a.setIfInBounds i v).getD j undef=a.getD j undef:=by
 rw[qw,qw,yr h]
theorem y1v(HA:Mf.on=false){F:Fence}(hF:Open F)(hro:F.round=none){nn:Nat}(Cv:1≤nn){g:Operand}{ps:Array Tmp}{as c:Code}{L:Desc}{e:Ty}{xs:List e.den}{p:Nat}{A:Type}{K:Ex→St→Option A}{s0:L.den}{f:e.den→L.den→Option (L.den⊕A)}{G:St→Option (L.den⊕A)}{j:L.den⊕A}{Q:Exit→Act→World→Prop}
  (dU:Va σ g ps=some ⟨e,xs,p⟩) (jP:L.ok σ (writes (.rangeFunc g ps as c))=true) (Zf:L.boxy=true) (QY:L.grab0 σ=some s0) (hl:B6 f xs s0=some j) (Zr:(ps.toList.all fun d=>Nat.blt d a.tmps.size)=true)
  (hR:jW P base κ M σ a w)
  (rJ:∀(l:Nat) (x:e.den) (s:L.den) (y:L.den⊕A) κ1 M1 a1 w1 (K1:Act→World→Prop),f x s=some y→a1.tmps.size=a.tmps.size→jW P base κ1 M1 ((L.put σ (writes (.rangeFunc g ps as c)) s).setD p e x) a1 w1→
   (∀κ' M' σ' a' w',jW P base κ' M' σ' a' w'→Fr base (writes as) κ1 M1 ((L.put σ (writes (.rangeFunc g ps as c)) s).setD p e x) a1 w1 κ' M' σ' a' w'→G σ'=some y→K1 a' w')→
   as.wpIn (F.inRound l) (nn-1-1) P (Exit.then K1 (fun _ _ _=>False)) a1 w1)
  (QB:∀(l:Nat) (y:L.den⊕A) σ1 κ1 M1 a1 w1 (Q1:Exit→Act→World→Prop),G σ1=some y→a1.tmps.size=a.tmps.size→jW P base κ1 M1 σ1 a1 w1→
   (∀ex κ' M' σ' a' w',jW P base κ' M' σ' a' w'→Fr base (writes c) κ1 M1 σ1 a1 w1 κ' M' σ' a' w'→
    (match ex with |.normal=>(L.grab (σ'.clear (writes (.rangeFunc g ps as c)))).map .inl|ex=>(K ex ((σ'.clear (writes (.rangeFunc g ps as c))).soil fun b=>σ.dirty b||L.gone b)).map .inr)=some y→Q1 (YM ex) a' w')→
   c.wpIn (F.inRound l) (nn-1-1) P Q1 a1 w1)
  (hQ:∀ex κ' M' σ' a' w',jW P base κ' M' σ' a' w'→Fr base (writes (.rangeFunc g ps as c)) κ M σ a w κ' M' σ' a' w'→
   ((∃s,j = .inl s∧ex = .normal∧σ'=(L.put σ (writes (.rangeFunc g ps as c)) s).soil fun b=>σ.dirty b||L.gone b)∨(∃r,j = .inr r∧ex ≠ .normal∧K ex σ'=some r))→Q (YM ex) a' w'):
  (Code.rangeFunc g ps as c).wpIn F nn P Q a w:=by
 obtain⟨q,own,rfl,dW,hq⟩:=zz8 dU;obtain⟨ws,Y8⟩:∃ws,ws=writes (.rangeFunc (.tmp q) ps as c):=⟨_,rfl⟩
 rw[←Y8]at jP rJ QB hQ;have dV:ps=#[p]:=yR dW;subst dV;have Vg:p∈ws:=by rw[Y8];simp[writes]
 have S8:∀i,i∈writes as→i∈ws:=fun i hi=>by rw[Y8];simp only[writes];exact q8 _ (q8 _ (zx _ hi))
 have Ey:∀i,i∈writes c→i∈ws:=fun i hi=>by rw[Y8];simp only[writes];exact q8 _ (zx _ hi)
 have hp:p<a.tmps.size:=by simpa using Zr
 obtain⟨hv,_⟩:=hR.env q _ hq;obtain⟨gf,lb,hu,hY⟩:∃gf lb,a.tmps.getD q undef = .func (.func gf) #[] lb∧y17 P (fun M' x v=>jz P e M' x v) M xs gf lb:=by
  obtain⟨gf,lb,h1,h2⟩:jB P (.seq e) M xs [a.tmps.getD q undef]:=hv;simp only[qM,zA]at h1;exact⟨gf,lb,h1,h2⟩
 unfold B6 at hl;split at hl;rotate_left
 ·cases hl
 rename_i hT;obtain⟨κ0,BR⟩:=tJ hR jP QY;have eC:∀{s κ1 M1 W},ZH P base L σ ws κ M a w s κ1 M1 a W→jW P base κ1 M1 ((L.put σ ws s).soil fun b=>σ.dirty b||L.gone b) a W∧Fr base ws κ M σ a w κ1 M1 ((L.put σ ws s).soil fun b=>σ.dirty b||L.gone b) a W:=fun hH=>bA hH hH.rel Fr.refl
 have JF:∀{s κ1 N A N' B},ZH P base L σ ws κ M a w s κ1 N a A→Good N' B→vm N A N' B→ZH P base L σ ws κ M a w s κ1 N' a B:=fun{s κ1 N A N' B} hH hg jZ=>
  ⟨(Ee hH.rel jZ.below hg jZ.mem).2.2,by
   have h1:=CM hH.rel jZ.below jZ.mem hg;have h2:Fr base [] κ1 N ((L.put σ ws s).back {σ with dirty:=fun _=>false} L) a A κ1 N' ((L.put σ ws s).back {σ with dirty:=fun _=>false} L) a B:=
    ⟨h1.below,h1.le,h1.mem,h1.size,h1.defers,h1.tmps,fun i hi hd=>⟨hd,(Ee hH.rel jZ.below hg jZ.mem).2.1 i⟩,fun i hi B' vB=>⟨rfl,B',vB,Alike.refl B'⟩,h1.oth,h1.same⟩
   exact hH.fr.trans h2 (fun _ h=>h) (by simp)⟩
 refine I7 hro Cv hF.depth hF.fn hF.alive hu hY (by simp)
  (fun pre N W=>∃s κ1,Vm f pre s0=some (.inl s)∧ZH P base L σ ws κ M a w s κ1 N a W)
  (fun cd pre N W=>∃ex r κ1 σ1,cd=codeOf ex∧ex ≠ .normal∧Vm f pre s0=some (.inr r)∧K ex σ1=some r∧jW P base κ1 N σ1 a W∧Fr base ws κ M σ a w κ1 N σ1 a W)
  (fun pre N W ⟨_,_,_,hH⟩=>hH.rel.good) (fun cd pre N W ⟨_,_,_,_,_,_,_,_,h5,_⟩=>h5.good) ?gi ?gx ?own ?ownx ⟨s0,κ0,rfl,BR⟩
  (fun pre x N a' W=>∃s y κ2 σ1,Vm f pre s0=some (.inl s)∧f x s=some y∧G σ1=some y∧jW P base κ2 N σ1 a' W∧Fr base ws κ M {σ with dirty:=fun _=>false} a w κ2 N (σ1.soil L.gone) a W∧a'.tmps.size=a.tmps.size∧∀i,i∉ws→a'.tmps.getD i undef=a.tmps.getD i undef)
  ?ownA ?assign ?body ?done ?stop
 case gi=>
  rintro pre N A N' B ⟨s,κ1,h1,hH⟩ hg jZ;exact⟨s,κ1,h1,JF hH hg jZ⟩
 case gx=>
  rintro cd pre N A N' B ⟨ex,r,κ1,σ1,h1,h2,h3,h4,h5,h6⟩ hg jZ;exact⟨ex,r,κ1,σ1,h1,h2,h3,h4,(Ee h5 jZ.below hg jZ.mem).2.2,h6.trans (CM h5 jZ.below jZ.mem hg) (fun _ h=>h) (by simp)⟩
 case own=>
  rintro pre N _ W W' row ⟨s,κ1,h1,hH⟩ hg vX;exact⟨s,κ1,h1,Ai (fun _ _ h=>by rw[HA]at h;cases h) hH.rel hg fun k e=>(vX k e).2,n7 hR hH.fr hg fun k e=>(vX k e).1⟩
 case ownx=>
  rintro cd pre N _ W W' row ⟨ex,r,κ1,σ1,h1,h2,h3,h4,h5,h6⟩ hg vX;exact⟨ex,r,κ1,σ1,h1,h2,h3,h4,Ai (fun _ _ h=>by rw[HA]at h;cases h) h5 hg fun k e=>(vX k e).2,n7 hR h6 hg fun k e=>(vX k e).1⟩
 case ownA=>
  rintro pre x N a' _ W W' row ⟨s,y,κ2,σ1,h1,h2,h3,h4,h5,h6,h7⟩ hg vX;exact⟨s,y,κ2,σ1,h1,h2,h3,Ai (fun _ _ h=>by rw[HA]at h;cases h) h4 hg fun k e=>(vX k e).2,n7 hR h5 hg fun k e=>(vX k e).1,h6,h7⟩
 case assign=>
  rintro l pre x N W v K' ⟨s,κ1,h1,hH⟩ vc hv hK;obtain⟨rest,Zw⟩:=vc;have vu:∀y,y∈pre++[x]→y∈xs:=fun y hy=>by rw[←Zw];exact q8 _ hy
  obtain⟨y,hy⟩:=hT pre x s (by rw[←Zw];simp) (fun y hy=>vu y (q8 _ hy)) (vu x (by simp)) h1;have hB:Array.foldl (fun t x=>t.setIfInBounds x.fst x.snd) a.tmps ((#[p]:Array Tmp).zip #[v])=a.tmps.setIfInBounds p v:=by simp
  have Yk:jW P base κ1 N ((L.put σ ws s).setD p e x) {tmps:=a.tmps.setIfInBounds p v,defers:=[]} W:=by
   refine y3x hv hH.rel (fun i v hi he =>?_) ?_
   ·simp only;rw[AI (fun e=>hi e.symm)]
   ·simp only;exact nj hp
  show as.wpIn (F.inRound l) (nn-1-1) P (Exit.then K' (fun _ _ _=>False)) {tmps:=Array.foldl (fun t x=>t.setIfInBounds x.fst x.snd) a.tmps ((#[p]:Array Tmp).zip #[v]),defers:=[]} W;rw[hB];refine rJ l x s y κ1 N _ W K' hy (by simp) Yk fun κ' M' σ' a' W' j4 j6 hk =>?_
  have JE:KeepsOthers W W':=⟨j6.below.size,fun k o h ho=>j6.oth k o h (mP HA (by cases o<;>first|rfl|cases ho))⟩
  have hFa:Fr base ws κ1 N (L.put σ ws s) a W κ' M' σ' a W':=by
   have:=PH (b:=a) (j6.mono S8);exact⟨this.below,this.le,this.mem,this.size,this.defers,this.tmps,this.ids,this.bx,this.oth,this.same⟩
  refine hK M' a' W' j6.le JE ⟨s,y,κ',σ',h1,hy,hk,j4,sU (fun _=>rfl) hH.fr hFa (fun _ h=>h),j6.size.trans (by simp),fun i hi =>?_⟩;rw[j6.tmps i (fun h=>hi (S8 i h))];simp only;rw[AI (fun e=>hi (by rw[←e];exact Vg))]
 case body=>
  rintro l pre x N a1 W ⟨s,y,κ1,σ1,h1,hy,hG,Yk,Wv,vQ,SJ⟩ vc;have wI:Vm f (pre++[x]) s0=match y with |.inl s'=>some (.inl s') |.inr r=>some (.inr r):=by
   rw[ng,h1];simp only[qh,Vm,hy];cases y<;>rfl
  refine QB l y σ1 κ1 N a1 W _ hG vQ Yk fun ex κ' M' σ' a' W' j4 j6 hk =>?_
  have JE:KeepsOthers W W':=⟨j6.below.size,fun k o h ho=>j6.oth k o h (mP HA (by cases o<;>first|rfl|cases ho))⟩
  have eX:jW P base κ' M' (σ'.clear ws) a W':=by
   refine Ah (Uu j4) fun i v hi =>?_
   have DB:=Uf hi;rw[j6.tmps i (fun h=>DB (Ey i h)),SJ i DB]
  have sd:Fr base ws κ M {σ with dirty:=fun _=>false} a w κ' M' ((σ'.clear ws).soil L.gone) a W':=by
   have:=Wv.trans (yfn (g:=L.gone) (PH (b:=a) (j6.mono Ey))) (fun _ h=>h) (fun _ h=>h);exact⟨this.below,this.le,this.mem,this.size,this.defers,this.tmps,this.ids,this.bx,this.oth,this.same⟩
  have JJ:∀FZ,FZ ≠ .normal→ex=FZ→(K FZ ((σ'.clear ws).soil fun b=>σ.dirty b||L.gone b)).map Sum.inr=some y→KeepsOthers W W'∧∃N',Mem.le N N'∧(∃ex r κ1 σ1,codeOf FZ=codeOf ex∧ex ≠ .normal∧Vm f (pre++[x]) s0=some (.inr r)∧K ex σ1=some r∧jW P base κ1 N' σ1 a W'∧Fr base ws κ M σ a w κ1 N' σ1 a W'):=fun FZ ju _ hk=>by
   obtain⟨r',XF,rfl⟩:=qB.1 hk;obtain⟨wG,wL⟩:=y9u (L:=L) eX sd;exact⟨JE,M',j6.le,FZ,r',κ',_,rfl,ju,wI,XF,wG,wL⟩
  cases ex with
  |normal=>
   simp only at hk;obtain⟨s',XF,rfl⟩:=qB.1 hk;obtain⟨κ2,EC⟩:=y6t hR jP eX sd XF;exact⟨JE,M',j6.le,s',κ2,wI,EC⟩
  |exit i=>exact JJ (.exit i) (by intro h;cases h) rfl hk
  |ret=>exact JJ .ret (by intro h;cases h) rfl hk
 case done=>
  rintro D N W hD ⟨s,κ1,h1,hH⟩ hK;rw[hl]at h1;simp only[qb]at h1;obtain⟨wG,wL⟩:=eC hH;refine hQ .normal κ1 N _ _ W (Ah wG fun _ _ _=>rfl) ?_ (.inl ⟨s,h1,rfl,rfl⟩);exact⟨wL.below,wL.le,wL.mem,rfl,⟨[D],rfl,xK _ _,(fun D' Ke=>by rw[qE.1 Ke];exact⟨hD,hK⟩),fun _=>by rw[Y8];simp[writes]⟩,fun _ _=>rfl,wL.ids,wL.bx,wL.oth,wL.same⟩
 case stop=>
  rintro D cd pre N W hD ⟨rest,hS⟩ ⟨ex,r,κ1,σ1,rfl,ju,h3,h4,h5,h6⟩ hK;have hj:j = .inr r:=by
   have:Vm f xs s0=some (.inr r):=by
    rw[←hS,ng,h3];rfl
   rw[hl]at this;exact zQ this
  have Q9:Q (YM ex) {a with defers:={target :=.collected D,args := #[]}::a.defers} W:=by
   refine hQ ex κ1 N σ1 _ W (Ah h5 fun _ _ _=>rfl) ?_ (.inr ⟨r,hj,ju,h4⟩);exact⟨h6.below,h6.le,h6.mem,rfl,⟨[D],rfl,xK _ _,(fun D' Ke=>by rw[qE.1 Ke];exact⟨hD,hK⟩),fun _=>by rw[Y8];simp[writes]⟩,fun _ _=>rfl,h6.ids,h6.bx,h6.oth,h6.same⟩
  cases ex with
  |normal=>exact(ju rfl).elim
  |exit i=>exact wpIn_exit Q9
  |ret=>exact jq Q9
theorem zz7{g:Operand}{ps:Array Tmp}{as:Code}{b:Nat}{e:Ty}{xs:Option (List e.den)}{p t:Nat}(h:sN σ g ps as=some (b,⟨e,xs,p,t⟩)):
  ∃(q id:Nat) (jA:Array Oper) (o:Oper) (F:js→Option (List e.den)) (tid:TypeId) (s:js) (own:Own),g = .tmp q∧ps.toList=[p]∧as = .region id jA false∧jA.toList=[o]∧o.dst=some t∧o.op = .assign (.tmp p)∧o.guard=none∧t≠p∧
   σ.env q=some (.iter b e F)∧σ.box b=some ⟨tid,.str,s,own,false⟩∧xs=F s∧e.scal=true:=by
 unfold sN at h;split at h
 ·rename_i q p0 Nq jA Zr;split at h
  ·rename_i o ho;split at h
   ·rename_i t0 p1 h1 h2 h3;split at h
    ·rename_i Bz;split at h
     ·rename_i b0 e0 F he;split at h
      ·rename_i tid s own hB;split at h
       ·rename_i hs;simp only[qb,qX]at h;obtain⟨rfl,h⟩:=h;simp only[Sigma.mk.injEq]at h;obtain⟨rfl,h⟩:=h;have h:=eq_of_heq h;simp only[qX]at h;obtain⟨rfl,rfl,rfl⟩:=h;rw[qg]at Bz;have hpe:=qq Bz.1;refine⟨q,Nq,jA,o,F,tid,s,own,rfl,Zr,rfl,ho,h1,by rw[h2,hpe],h3,fun e =>?_,he,hB,rfl,hs⟩;have:=Bz.2;rw[e,ym]at this;cases this
       ·cases h
      ·cases h
     ·cases h
    ·cases h
   ·cases h
  ·cases h
 ·cases h
theorem yct{L:Desc}{ws:List Nat}{b:Nat}(h:L.free ws b=true):b∉ws∧b∉L.kb∧b∉ZA L.its∧b∉DY L.its:=by
 unfold Desc.free at h;simp only[qg,zO]at h;have key:∀l:List Nat,(l.any fun i=>Nat.beq i b)=false→b∉l:=fun l hl hb=>by rw[Ac.2 hb]at hl;cases hl
 exact⟨key _ h.1.1.1,key _ h.1.1.2,key _ h.1.2,key _ h.2⟩
theorem y61(HA:Mf.on=false){F:Fence}(hF:Open F)(hro:F.round=none){nn:Nat}(Cv:1≤nn){g:Operand}{ps:Array Tmp}{as c:Code}{L:Desc}{kb:Nat}{e:Ty}{ox:Option (List e.den)}{xs:List e.den}{p t:Nat}{A:Type}{K:Ex→St→Option A}{s0:L.den}{f:e.den→L.den→Option (L.den⊕A)}{j:L.den⊕A}{Q:Exit→Act→World→Prop}
  (dU:sN σ g ps as=some (kb,⟨e,ox,p,t⟩)) (H4:ox=some xs) (jP:L.ok σ (writes (.rangeFunc g ps as c))=true) (Zf:L.boxy=true) (aA:L.free (writes (.rangeFunc g ps as c)) kb=true) (QY:L.grab0 σ=some s0) (hl:B6 f xs s0=some j) (Zr:(ps.toList.all fun d=>Nat.blt d a.tmps.size)=true) (aC:okB a.tmps.size as=true)
  (hR:jW P base κ M σ a w)
  (QB:∀(l:Nat) (x:e.den) (s:L.den) (y:L.den⊕A) κ1 M1 a1 w1 (Q1:Exit→Act→World→Prop),f x s=some y→a1.tmps.size=a.tmps.size→jW P base κ1 M1 ((L.put σ (writes (.rangeFunc g ps as c)) s).setD t e x) a1 w1→
   (∀ex κ' M' σ' a' w',jW P base κ' M' σ' a' w'→Fr base (writes c) κ1 M1 ((L.put σ (writes (.rangeFunc g ps as c)) s).setD t e x) a1 w1 κ' M' σ' a' w'→
    (if σ'.dirty kb||σ'.tok kb then none else match ex with |.normal=>(L.grab (σ'.clear (writes (.rangeFunc g ps as c)))).map .inl|ex=>(K ex ((σ'.clear (writes (.rangeFunc g ps as c))).soil fun b=>σ.dirty b||L.gone b)).map .inr)=some y→Q1 (YM ex) a' w')→
   c.wpIn (F.inRound l) (nn-1-1) P Q1 a1 w1)
  (hQ:∀ex κ' M' σ' a' w',jW P base κ' M' σ' a' w'→Fr base (writes (.rangeFunc g ps as c)) κ M σ a w κ' M' σ' a' w'→
   ((∃s,j = .inl s∧ex = .normal∧σ'=(L.put σ (writes (.rangeFunc g ps as c)) s).soil fun b=>σ.dirty b||L.gone b)∨(∃r,j = .inr r∧ex ≠ .normal∧K ex σ'=some r))→Q (YM ex) a' w'):
  (Code.rangeFunc g ps as c).wpIn F nn P Q a w:=by
 obtain⟨q,Nq,jA,o,Fs,tid,str,own,rfl,dW,rfl,BA,Wm,Ze,pn,NH,hq,hB,hFs,NS⟩:=zz7 dU;rw[H4]at hFs;obtain⟨ws,Y8⟩:∃ws,ws=writes (.rangeFunc (.tmp q) ps (.region Nq jA false) c):=⟨_,rfl⟩
 rw[←Y8]at jP QB hQ aA;obtain⟨fw,fk,ft,fb⟩:=yct aA;have dV:ps=#[p]:=yR dW;subst dV;have Vg:p∈ws:=by rw[Y8];simp[writes]
 have htw:t∈ws:=by rw[Y8];simp[writes,BA,Wm]
 have Ey:∀i,i∈writes c→i∈ws:=fun i hi=>by rw[Y8];simp only[writes];exact q8 _ (zx _ hi)
 have hp:p<a.tmps.size:=by simpa using Zr
 have ht:t<a.tmps.size:=by
  simp only[okB,s8,BA,QE,qg,qW,xw]at aC;exact aC.2 t (by simp[Wm])
 obtain⟨FF,s',wu,G,gf,lb,vB,hκ,hu,hit⟩:=hR.env q _ hq;rw[hB]at vB;cases vB;obtain⟨G',jT,E,hG1,hG2,hG3,_,hG5⟩:=(hR.bx kb _ hB).cells (ya9 rfl);rw[hκ]at hG1;cases hG1;have OU:jT=#[.string str]:=by
  apply yR;exact hG3
 subst OU;have YH:base≤G:=(hR.kap kb G hκ).1;have NJ:σ.tok kb=false:=hR.dis kb _ hB;unfold B6 at hl;split at hl;rotate_left
 ·cases hl
 rename_i hT;have sr:∀{κ1:Nat→Option Nat} {tk:Nat→Bool} {κ':Nat→Option Nat},uV L tk κ' κ1→(∀j,κ' j=some G→tk j=false∧(j=kb∨False))→(∀i,κ1 i≠some G)∧κ1 kb=none:=fun{κ1 tk κ'} hK hj=>
  ⟨fun i hi=>by
   obtain⟨j,h1,h2⟩:=hK.1 i G hi;obtain⟨h3,h4⟩:=hj j h1;rcases h4 with rfl|h4
   ·rcases h2 with h2|⟨rfl,h2|h2⟩
    ·rw[h3]at h2;cases h2
    ·exact fb h2
    ·exact fk h2
   ·exact h4,hK.2 kb ft fb fk⟩
 obtain⟨κ0,BR,Mm⟩:=II hR jP QY;have hN0:=sr Mm fun j hj=>by
  have:=hR.inj j kb G hj hκ;subst this;exact⟨NJ,.inl rfl⟩
 have eC:∀{s κ1 M1 W},ZH P base L σ ws κ M a w s κ1 M1 a W→jW P base κ1 M1 ((L.put σ ws s).soil fun b=>σ.dirty b||L.gone b) a W∧Fr base ws κ M σ a w κ1 M1 ((L.put σ ws s).soil fun b=>σ.dirty b||L.gone b) a W:=fun hH=>bA hH hH.rel Fr.refl
 have Da:∀s:L.den,(L.put σ ws s).box kb=none:=fun s=>by
  cases hc:(L.put σ ws s).box kb with
  |none=>rfl
  |some B=>
   rcases mg hc with⟨e,he,hb,h1,rfl⟩|hb
   ·exact absurd (Ae.2 ⟨e.1,zip_fst he,hb,h1⟩) fb
   ·simp only[St.base]at hb;rw[qT (fun h=>fk (Ce.1 h))]at hb;cases hb
 have cZ:∀s:L.den,(L.put σ ws s).tok kb=false:=fun s=>by
  show(put (σ.base L ws) L.its s).tok kb=false;rw[P2];simp only[St.base];have h1:L.keeps kb=false:=by
   cases hk:L.keeps kb with
   |false=>rfl
   |true=>exact absurd (Ce.1 hk) fk
  have h2:((ZA L.its).any fun i=>Nat.beq i kb)=false:=by
   cases hk:(ZA L.its).any fun i=>Nat.beq i kb with
   |false=>rfl
   |true=>exact absurd (Ac.1 hk) ft
  rw[h1,h2];rfl
 refine zun hro Cv hF.depth hF.fn hF.alive (gf:=gf) (lb:=lb) hu hit hFs.symm hR.good.2 hG2 hG5 rfl
  (fun pre W=>∃s κ1 M1,Vm f pre s0=some (.inl s)∧ZH P base L σ ws κ M a w s κ1 M1 a W∧(∀i,κ1 i≠some G)∧κ1 kb=none∧∀o,M1 G o=none)
  (fun cd pre W=>∃ex r κ1 M1 σ1,cd=codeOf ex∧ex ≠ .normal∧Vm f pre s0=some (.inr r)∧K ex σ1=some r∧jW P base κ1 M1 σ1 a W∧Fr base ws κ M σ a w κ1 M1 σ1 a W)
  ?own ?ownx ?step ⟨s0,κ0,M,rfl,BR,hN0.1,hN0.2,hG5⟩
  (fun x=>{tmps:=(a.tmps.setIfInBounds p (encS e x)).setIfInBounds t (encS e x),defers:=[]})
  ?assign ?body ?done ?stop
 case own=>
  rintro pre W W' row ⟨s,κ1,M1,h1,hH,h2⟩ hg vX;exact⟨s,κ1,M1,h1,⟨Ai (fun _ _ h=>by rw[HA]at h;cases h) hH.rel hg fun k e=>(vX k e).2,n7 hR hH.fr hg fun k e=>(vX k e).1⟩,h2⟩
 case ownx=>
  rintro cd pre W W' row ⟨ex,r,κ1,M1,σ1,h1,h2,h3,h4,h5,h6⟩ hg vX;exact⟨ex,r,κ1,M1,σ1,h1,h2,h3,h4,Ai (fun _ _ h=>by rw[HA]at h;cases h) h5 hg fun k e=>(vX k e).2,n7 hR h6 hg fun k e=>(vX k e).1⟩
 case step=>
  rintro pre A B ⟨s,κ1,M1,h1,hH,h2,h3,h4⟩ hs;exact⟨s,κ1,M1,h1,⟨y1q hH.rel h2 h4 hs,y72 hH.fr YH rfl h2 (.inl ⟨kb,hκ⟩) hs⟩,h2,h3,h4⟩
 case assign=>
  intro l x W K' hK;have vQ:jA.size=1:=by rw[←zN,BA];rfl
  have h0:jA[0]?=some o:=by rw[←zh,BA];rfl
  refine xO ?_;rw[vQ,show List.range 1=[0] from rfl,xo];refine mU h0 ?_;rw[show Region.wanted o (yielded jA (Act.tmps _))=true by unfold Region.wanted;rw[pn],qH rfl];refine⟨fun f _=>hF.fn f,?_⟩;rw[jo _ _ _ (fun c hc=>by rw[Ze]at hc;cases hc),show ∀ρ:Operand→Value,(execOp ρ o).run P W = .ok (.value (ρ (.tmp p))) W from fun ρ=>by simp[execOp,Ze],yI];simp only[wpOpsIn];refine Eq.mp (congrFun (congrArg K' ?_) W) hK;rw[Wm];have hB:Array.foldl (fun t x=>t.setIfInBounds x.fst x.snd) a.tmps ((#[p]:Array Tmp).zip #[encS e x])=a.tmps.setIfInBounds p (encS e x):=by simp
  show({tmps:=_,defers:=[]}:Act)={tmps:=(Array.foldl (fun t x=>t.setIfInBounds x.fst x.snd) a.tmps ((#[p]:Array Tmp).zip #[encS e x])).setIfInBounds t ((Array.foldl (fun t x=>t.setIfInBounds x.fst x.snd) a.tmps ((#[p]:Array Tmp).zip #[encS e x])).getD p undef),defers:=[]}
  rw[hB,nj hp]
 case body=>
  rintro l pre x W ⟨s,κ1,M1,h1,hH,G8,VP,hn3⟩ vc Th;have hGl:G<W.heap.size:=by
   cases hc:W.heap[G]? with
   |none=>rw[hc]at Th;cases Th
   |some o=>exact(qd.1 hc).1
  obtain⟨rst,dT⟩:=vc;have hxm:x∈xs:=by rw[←dT];simp
  obtain⟨y,hy⟩:=hT pre x s (by rw[←dT];simp) (fun y hy=>by rw[←dT];simp[hy]) hxm h1;have wI:Vm f (pre++[x]) s0=match y with |.inl s'=>some (.inl s') |.inr r=>some (.inr r):=by
   rw[ng,h1];simp only[qh,Vm,hy];cases y<;>rfl
  have rW:=ydr (k:=kb) (g:=some G) hH.rel (Da s) (cZ s) fun G' e=>by cases e;exact⟨YH,hGl,G8⟩
  have Yk:jW P base (vH κ1 kb (some G)) M1 ((L.put σ ws s).setD t e x) {tmps:=(a.tmps.setIfInBounds p (encS e x)).setIfInBounds t (encS e x),defers:=[]} W:=by
   refine ybn NS rW (fun i v hi he =>?_) ?_
   ·have DB:=yev Zf he;simp only;rw[AI (fun e=>hi e.symm),AI (fun e=>DB (by rw[←e];exact Vg))]
   ·simp only;exact nj (by simpa using ht)
  refine QB l x s y _ M1 _ W _ hy (by simp) Yk fun ex κ' M' σ' a' W' j4 j6 hk =>?_
  split at hk
  ·cases hk
  rename_i OQ;simp only[yh,not_or,Bool.not_eq_true]at OQ;obtain⟨_,Gd,SV⟩:=j6.ids kb (fun h=>fw (Ey kb h)) OQ.1;rw[jy]at Gd;obtain⟨hGW,hGM⟩:=SV G (jy _ _ _);have aD:σ'.box kb=none:=by
   cases hc:σ'.box kb with
   |none=>rfl
   |some B=>
    obtain⟨_,B0,h2,_⟩:=j6.bx kb (fun h=>fw (Ey kb h)) B hc;have h2:(L.put σ ws s).box kb=some B0:=h2;rw[Da]at h2;cases h2
  have wG:=ydr (k:=kb) (g:=none) j4 aD OQ.2 (fun G' e=>by cases e);have Oc:∀i,vH κ' kb none i≠some G:=fun i hi=>by
   by_cases e:i=kb
   ·subst e;rw[jy]at hi;cases hi
   ·rw[vN _ _ _ _ e]at hi;exact e (j4.inj i kb G hi Gd)
  have JE:KeepsOthers W W':=⟨j6.below.size,fun k o h ho=>j6.oth k o h (mP HA (by cases o<;>first|rfl|cases ho))⟩
  have lB:znh M W W':=fun b off v hv _=>j4.good.2 _ _ _ (j6.le _ _ _ (hH.fr.le _ _ _ hv))
  have eX:jW P base (vH κ' kb none) M' (σ'.clear ws) a W':=by
   refine Ah (Uu wG) fun i v hi =>?_
   have DB:=Uf hi;rw[j6.tmps i (fun h=>DB (Ey i h))];simp only;rw[AI (fun e=>DB (by rw[←e];exact htw)),AI (fun e=>DB (by rw[←e];exact Vg))]
  have sd:Fr base ws κ1 M1 (L.put σ ws s) a W (vH κ' kb none) M' (σ'.clear ws) a W':=by
   have:=PH (b:=a) (j6.mono Ey);refine⟨this.below,this.le,this.mem,this.size,this.defers,this.tmps,fun i hi hd =>?_,fun i hi B hB =>?_,this.oth,.of (fun j hj hn =>?_) (fun i j X3 =>?_) fun j hj hn =>?_⟩;rotate_left 2
   ·by_cases e:j=G
    ·subst e;exact hGW
    ·refine this.same.frame j hj fun i hi =>?_
     by_cases e2:i=kb
     ·subst e2;rw[jy]at hi;cases hi;exact e rfl
     ·rw[vN _ _ _ _ e2]at hi;exact hn i hi
   ·by_cases e2:i=kb
    ·subst e2;rw[jy]at X3;cases X3
    ·rw[vN _ _ _ _ e2]at X3;rcases this.same.src i j X3 with⟨i',Xq⟩|h
     ·by_cases e3:i'=kb
      ·subst e3;rw[jy]at Xq;cases Xq;exact absurd (j4.inj i i' _ X3 Gd) e2
      ·rw[vN _ _ _ _ e3]at Xq;exact .inl ⟨i',Xq⟩
     ·exact .inr h
   ·by_cases e:j=G
    ·subst e;exact funext hGM
    ·refine this.same.mem j hj fun i hi =>?_
     by_cases e2:i=kb
     ·subst e2;rw[jy]at hi;cases hi;exact e rfl
     ·rw[vN _ _ _ _ e2]at hi;exact hn i hi
   ·obtain⟨d1,e1,e2⟩:=this.ids i hi hd;refine⟨d1,?_⟩;by_cases e:i=kb
    ·subst e;exact⟨by rw[jy,VP],fun g hg=>by rw[VP]at hg;cases hg⟩
    ·rw[vN _ _ _ _ e]at e1;exact⟨by rw[vN _ _ _ _ e];exact e1,fun g hg=>e2 g (by rw[vN _ _ _ _ e];exact hg)⟩
   ·have ju:i≠kb:=fun e=>by
     have hB:σ'.box i=some B:=hB;rw[e,aD]at hB;cases hB
    obtain⟨e1,e2⟩:=this.bx i hi B hB;rw[vN _ _ _ _ ju]at e1;exact⟨by rw[vN _ _ _ _ ju];exact e1,e2⟩
  have JJ:∀FZ,FZ ≠ .normal→ex=FZ→(K FZ ((σ'.clear ws).soil fun b=>σ.dirty b||L.gone b)).map Sum.inr=some y→KeepsOthers W W'∧(∃ex r κ1 M1 σ1,codeOf FZ=codeOf ex∧ex ≠ .normal∧Vm f (pre++[x]) s0=some (.inr r)∧K ex σ1=some r∧jW P base κ1 M1 σ1 a W'∧Fr base ws κ M σ a w κ1 M1 σ1 a W'):=fun FZ ju _ hk=>by
   obtain⟨r',XF,rfl⟩:=qB.1 hk;obtain⟨BQ,hF3⟩:=bA hH eX sd;exact⟨JE,FZ,r',_,M',_,rfl,ju,wI,XF,BQ,hF3⟩
  cases ex with
  |normal=>
   simp only at hk;obtain⟨s',XF,rfl⟩:=qB.1 hk;obtain⟨κ2,EC,ZK⟩:=LW hR jP hH eX sd XF;have hN2:(∀i,κ2 i≠some G)∧κ2 kb=none:=⟨fun i hi=>by
    obtain⟨j,h2,_⟩:=ZK.1 i G hi;exact Oc j h2,ZK.2 kb ft fb fk⟩
   exact⟨JE,lB,hGW,s',κ2,M',wI,EC,hN2.1,hN2.2,fun o=>(hGM o).trans (hn3 o)⟩
  |exit i=>exact JJ (.exit i) (by intro h;cases h) rfl hk
  |ret=>exact JJ .ret (by intro h;cases h) rfl hk
 case done=>
  rintro D W hD ⟨s,κ1,M1,h1,hH,_⟩ hK;rw[hl]at h1;simp only[qb]at h1;obtain⟨wG,wL⟩:=eC hH;refine hQ .normal κ1 M1 _ _ W (Ah wG fun _ _ _=>rfl) ?_ (.inl ⟨s,h1,rfl,rfl⟩);exact⟨wL.below,wL.le,wL.mem,rfl,⟨[D],rfl,xK _ _,(fun D' Ke=>by rw[qE.1 Ke];exact⟨hD,hK⟩),fun _=>by rw[Y8];simp[writes]⟩,fun _ _=>rfl,wL.ids,wL.bx,wL.oth,wL.same⟩
 case stop=>
  rintro D cd pre W hD ⟨rest,hS⟩ ⟨ex,r,κ1,M1,σ1,rfl,ju,h3,h4,h5,h6⟩ hK;have hj:j = .inr r:=by
   have:Vm f xs s0=some (.inr r):=by
    rw[←hS,ng,h3];rfl
   rw[hl]at this;exact zQ this
  have Q9:Q (YM ex) {a with defers:={target :=.collected D,args := #[]}::a.defers} W:=by
   refine hQ ex κ1 M1 σ1 _ W (Ah h5 fun _ _ _=>rfl) ?_ (.inr ⟨r,hj,ju,h4⟩);exact⟨h6.below,h6.le,h6.mem,rfl,⟨[D],rfl,xK _ _,(fun D' Ke=>by rw[qE.1 Ke];exact⟨hD,hK⟩),fun _=>by rw[Y8];simp[writes]⟩,fun _ _=>rfl,h6.ids,h6.bx,h6.oth,h6.same⟩
  cases ex with
  |normal=>exact(ju rfl).elim
  |exit i=>exact wpIn_exit Q9
  |ret=>exact jq Q9
theorem J6(hm:P.follows .mixedOrders=true)(hC:Qw P Γ):∀(c:Code) {F:Fence} {nn:Nat} (_:Open F) (_:(F.round=none∧1≤nn)∨V9 c=true) {n:Ann} {A:Type} {K:Ex→St→Option A} {r:A} {κ:Nat→Option Nat} {M:Mem} {σ:St} {a:Act} {w:World} {Q:Exit→Act→World→Prop},
  vY Γ c n σ K=some r→okB a.tmps.size c=true→jW P base κ M σ a w→
  (∀e κ' M' σ' a' w',jW P base κ' M' σ' a' w'→Fr base (writes c) κ M σ a w κ' M' σ' a' w'→K e σ'=some r→Q (YM e) a' w')→c.wpIn F nn P Q a w
 |.skip,F,nn,hF,hro,n,A,K,r,κ,M,σ,a,w,Q,h,_,hR,hQ=>by
  simp only[vY]at h;exact jk (hQ .normal κ M σ a w hR Fr.refl h)
 |.exit id,F,nn,hF,hro,n,A,K,r,κ,M,σ,a,w,Q,h,_,hR,hQ=>by
  simp only[vY]at h;exact wpIn_exit (hQ (.exit id) κ M σ a w hR Fr.refl h)
 |.ret,F,nn,hF,hro,n,A,K,r,κ,M,σ,a,w,Q,h,_,hR,hQ=>by
  simp only[vY]at h;exact jq (hQ .ret κ M σ a w hR Fr.refl h)
 | .region id jA d,F,nn,hF,hro,n,A,K,r,κ,M,σ,a,w,Q,h,hb,hR,hQ=>by
  simp only[vY]at h;split at h
  ·rename_i σ1 h1;obtain⟨M1,Yk,Wv⟩:=y3w hR h1;simp only[okB]at hb;cases Q0:Γ.gown with
   |true=>rw[Q0]at h;cases h
   |false=>
   rw[Q0,qu]at h;refine zz4 Q0 hm hC h (fun τ lg hk hd =>?_) hb Yk hF fun κ' M' τ lg a' w' j4 j6 hk =>?_
   ·subst hd;simp only[zJ]at hk;split at hk
    ·cases hk
    ·rename_i ho;simpa using ho
   ·split at hk
    ·cases hk
    ·exact hQ .normal κ' M' τ a' w' j4 (Wv.trans j6 (fun s hs=>by cases hs) fun s hs=>hs) hk
  ·cases h
 | .seq x y,F,nn,hF,hro,n,A,K,r,κ,M,σ,a,w,Q,h,hb,hR,hQ=>by
  simp only[vY]at h;simp only[okB,qg]at hb;refine zq (J6 hm hC x hF (hro.imp id fun h=>by simp only[V9,qg]at h;exact h.1) h hb.1 hR fun e κ' M' σ' a' w' j4 j6 hk =>?_);have hl:Fr base (writes (.seq x y)) κ M σ a w κ' M' σ' a' w':=j6.mono fun s hs=>q8 _ hs
  cases e with
  |normal=>
   refine J6 hm hC y hF (hro.imp id fun h=>by simp only[V9,qg]at h;exact h.2) hk (by rw[j6.size];exact hb.2) j4 fun e κ2 M2 σ2 a2 w2 wG wL VR =>?_
   exact hQ e κ2 M2 σ2 a2 w2 wG (j6.trans wL (fun s hs=>q8 _ hs) fun s hs=>zx _ hs) VR
  |exit i=>exact hQ (.exit i) κ' M' σ' a' w' j4 hl hk
  |ret=>exact hQ .ret κ' M' σ' a' w' j4 hl hk
 | .block id x,F,nn,hF,hro,n,A,K,r,κ,M,σ,a,w,Q,h,hb,hR,hQ=>by
  simp only[vY]at h;simp only[okB]at hb;refine xx (J6 hm hC x hF hro h hb hR fun e κ' M' σ' a' w' j4 j6 hk =>?_);cases e with
  |normal=>exact hQ .normal κ' M' σ' a' w' j4 j6 hk
  |ret=>exact hQ .ret κ' M' σ' a' w' j4 j6 hk
  |exit i=>
   simp only at hk;simp only[YM,Exit.inBlock];split at hk
   ·rename_i hi;rw[qH hi];exact hQ .normal κ' M' σ' a' w' j4 j6 hk
   ·rename_i hi;rw[qT hi];exact hQ (.exit i) κ' M' σ' a' w' j4 j6 hk
 | .cond cnd x y,F,nn,hF,hro,n,A,K,r,κ,M,σ,a,w,Q,h,hb,hR,hQ=>by
  simp only[vY]at h;simp only[okB,qg]at hb;have hl:∀{V},(V=writes x∨V=writes y)→∀s,s∈V→s∈writes (.cond cnd x y):=fun hV s hs=>by
   rcases hV with rfl|rfl
   ·exact q8 _ hs
   ·exact zx _ hs
  have rX:jW P base κ M {σ with dirty:=fun _=>false} a w:=Cc hR rfl rfl rfl;split at h
  ·cases h
  ·rename_i g hg;have plain:∀n',(bif g then vY Γ x (Ann.l n') σ K else vY Γ y (Ann.r n') σ K)=some r→(Code.cond cnd x y).wpIn F nn P Q a w:=fun n' h=>by
    refine xd (bu hR hg) (fun ht =>?_) (fun ht =>?_)
    ·subst ht;exact J6 hm hC x hF (hro.imp id fun h=>by simp only[V9,qg]at h;exact h.1) h hb.1 hR fun e κ' M' σ' a' w' j4 j6 hk=>hQ e κ' M' σ' a' w' j4 (j6.mono (hl (.inl rfl))) hk
    ·subst ht;exact J6 hm hC y hF (hro.imp id fun h=>by simp only[V9,qg]at h;exact h.2) h hb.2 hR fun e κ' M' σ' a' w' j4 j6 hk=>hQ e κ' M' σ' a' w' j4 (j6.mono (hl (.inr rfl))) hk
   have H2:∀(L:Desc) (s:L.den) (V:List Nat) κ' M' σ' a' w',L.ok σ (writes x++writes y)=true→(V=writes x∨V=writes y)→jW P base κ' M' σ' a' w'→Fr base V κ M {σ with dirty:=fun _=>false} a w κ' M' σ' a' w'→
     L.grab σ'=some s→K .normal ((L.put σ (writes x++writes y) s).back σ L)=some r→Q .normal a' w':=fun L s V κ' M' σ' a' w' jP hV j4 j6 jZ hk=>by
    obtain⟨hd,Ws⟩:=tg jZ;obtain⟨κ2,h1,h2,_⟩:=mC (σ0:={σ with dirty:=fun _=>false}) hR (oH jP) j4 rfl (j6.mono (hl hV)) hd Ws;refine hQ .normal κ2 M' ((L.put σ (writes x++writes y) s).back σ L) a' w' (Cc h1 rfl rfl rfl) (lZ h2 rfl rfl fun i hi =>?_) hk;simp only[St.back,zX]at hi⊢;exact⟨hi.1,(by trivial),hi.2⟩
   have out:∀e (V:List Nat) κ' M' σ' a' w',(V=writes x∨V=writes y)→jW P base κ' M' σ' a' w'→Fr base V κ M {σ with dirty:=fun _=>false} a w κ' M' σ' a' w'→K e (σ'.soil σ.dirty)=some r→Q (YM e) a' w':=fun e V κ' M' σ' a' w' hV j4 j6 hk=>by
    refine hQ e κ' M' (σ'.soil σ.dirty) a' w' (Cc j4 rfl rfl rfl) (lZ (j6.mono (hl hV)) rfl rfl fun i hi =>?_) hk;simp only[St.soil,zX]at hi;exact hi
   cases n with
   |join L m m'=>
    simp only at h;split at h
    ·rename_i jP;obtain⟨s,hs,hk⟩:=qi.1 h;refine xd (bu hR hg) (fun ht =>?_) (fun ht =>?_)
     ·subst ht;refine J6 hm hC x hF (hro.imp id fun h=>by simp only[V9,qg]at h;exact h.1) hs hb.1 rX fun e κ' M' σ' a' w' j4 j6 wb =>?_
      cases e with
      |normal=>exact H2 L s _ κ' M' σ' a' w' jP (.inl rfl) j4 j6 wb hk
      |exit i=>cases wb
      |ret=>cases wb
     ·subst ht;refine J6 hm hC y hF (hro.imp id fun h=>by simp only[V9,qg]at h;exact h.2) hs hb.2 rX fun e κ' M' σ' a' w' j4 j6 wb =>?_
      cases e with
      |normal=>exact H2 L s _ κ' M' σ' a' w' jP (.inr rfl) j4 j6 wb hk
      |exit i=>cases wb
      |ret=>cases wb
    ·cases h
   |joinD L m m'=>
    simp only at h;split at h
    ·rename_i jP;obtain⟨s,hs,hk⟩:=qi.1 h;have fin:∀e (V:List Nat) κ' M' σ' a' w',(V=writes x∨V=writes y)→jW P base κ' M' σ' a' w'→Fr base V κ M {σ with dirty:=fun _=>false} a w κ' M' σ' a' w'→
       (match e with |.normal=>(L.grab σ').map .inl|e=>(K e (σ'.soil σ.dirty)).map .inr)=some s→Q (YM e) a' w':=fun e V κ' M' σ' a' w' hV j4 j6 wb=>by
      cases e with
      |normal=>
       simp only[qB]at wb;obtain⟨s',h1,rfl⟩:=wb;exact H2 L s' V κ' M' σ' a' w' jP hV j4 j6 h1 hk
      |exit i=>
       simp only[qB]at wb;obtain⟨r',h1,rfl⟩:=wb;simp only[qb]at hk;subst hk;exact out _ V κ' M' σ' a' w' hV j4 j6 h1
      |ret=>
       simp only[qB]at wb;obtain⟨r',h1,rfl⟩:=wb;simp only[qb]at hk;subst hk;exact out _ V κ' M' σ' a' w' hV j4 j6 h1
     refine xd (bu hR hg) (fun ht =>?_) (fun ht =>?_)
     ·subst ht;exact J6 hm hC x hF (hro.imp id fun h=>by simp only[V9,qg]at h;exact h.1) hs hb.1 rX fun e κ' M' σ' a' w' j4 j6 wb=>fin e _ κ' M' σ' a' w' (.inl rfl) j4 j6 wb
     ·subst ht;exact J6 hm hC y hF (hro.imp id fun h=>by simp only[V9,qg]at h;exact h.2) hs hb.2 rX fun e κ' M' σ' a' w' j4 j6 wb=>fin e _ κ' M' σ' a' w' (.inr rfl) j4 j6 wb
    ·cases h
   |nil=>exact plain .nil h
   |seq a' b'=>exact plain (.seq a' b') h
   |cond a' b'=>exact plain (.cond a' b') h
   |blk a'=>exact plain (.blk a') h
   |loopB L B id a'=>exact plain (.loopB L B id a') h
   |loopBD L B id a'=>exact plain (.loopBD L B id a') h
   |loopD L a'=>exact plain (.loopD L a') h
   |frz b' a'=>exact plain (.frz b' a') h
 | .loop c,F,nn,hF,hro,n,A,K,r,κ,M,σ,a,w,Q,h,hb,hR,hQ=>by
  simp only[vY]at h;simp only[okB]at hb;cases n with
  |loopB L B id m=>
   simp only at h;split at h
   ·rename_i jP;simp only[qg]at jP;split at h
    ·cases h
    ·rename_i s0 QY;obtain⟨b,hl,hk⟩:=qi.1 h;obtain⟨mm,hl⟩:=UM hl;obtain⟨κ0,BR⟩:=tJ hR jP.1 QY;refine xP mm (rounds (L:=L) (σ:=σ) (κ:=κ) (M:=M) (a:=a) (w:=w) (ws:=writes c) ?_ mm s0 κ0 M a w hl BR);intro s x κ1 M1 a1 w1 hH hf K' Z5 ZK;refine J6 hm hC c hF hro hf (by rw[hH.fr.size];exact hb) hH.rel fun e κ' M' σ' a' w' j4 j6 wb =>?_
     cases e with
     |normal=>
      simp only[qB]at wb;obtain⟨s',h1,rfl⟩:=wb;obtain⟨κ2,EC⟩:=Uk hR jP.1 hH j4 j6 h1;exact Z5 s' κ2 M' a' w' rfl EC
     |exit i=>
      simp only at wb;split at wb
      ·rename_i hi;subst hi;simp only[qB]at wb;obtain⟨b',h1,rfl⟩:=wb;have:=ZK b' rfl;subst this;obtain⟨κ2,wG,wL⟩:=y0c hR jP.2 hH j4 j6 h1;exact hQ (.exit i) κ2 M' _ a' w' wG wL hk
      ·cases wb
     |ret=>cases wb
   ·cases h
  |loopBD L B id m=>
   simp only at h;split at h
   ·rename_i jP;simp only[qg]at jP;split at h
    ·cases h
    ·rename_i s0 QY;obtain⟨b,hl,hk⟩:=qi.1 h;obtain⟨mm,hl⟩:=UM hl;obtain⟨κ0,BR⟩:=tJ hR jP.1 QY;refine xP mm (rounds (L:=L) (σ:=σ) (κ:=κ) (M:=M) (a:=a) (w:=w) (ws:=writes c) ?_ mm s0 κ0 M a w hl BR);intro s x κ1 M1 a1 w1 hH hf K' Z5 ZK;refine J6 hm hC c hF hro hf (by rw[hH.fr.size];exact hb) hH.rel fun e κ' M' σ' a' w' j4 j6 wb =>?_
     cases e with
     |normal=>
      simp only[qB]at wb;obtain⟨s',h1,rfl⟩:=wb;obtain⟨κ2,EC⟩:=Uk hR jP.1 hH j4 j6 h1;exact Z5 s' κ2 M' a' w' rfl EC
     |exit i=>
      simp only at wb;split at wb
      ·rename_i hi;subst hi;simp only[qB]at wb;obtain⟨b',h1,rfl⟩:=wb;have:=ZK _ rfl;subst this;obtain⟨κ2,wG,wL⟩:=y0c hR jP.2 hH j4 j6 h1;exact hQ (.exit i) κ2 M' _ a' w' wG wL hk
      ·simp only[qB]at wb;obtain⟨r',h1,rfl⟩:=wb;have:=ZK _ rfl;subst this;simp only[qb]at hk;subst hk;obtain⟨wG,wL⟩:=bA hH j4 j6;exact hQ (.exit i) κ' M' _ a' w' wG wL h1
     |ret=>
      simp only[qB]at wb;obtain⟨r',h1,rfl⟩:=wb;have:=ZK _ rfl;subst this;simp only[qb]at hk;subst hk;obtain⟨wG,wL⟩:=bA hH j4 j6;exact hQ .ret κ' M' _ a' w' wG wL h1
   ·cases h
  |loopD L m=>
   simp only at h;split at h
   ·rename_i jP;split at h
    ·cases h
    ·rename_i s0 QY;obtain⟨mm,hl⟩:=UM h;obtain⟨κ0,BR⟩:=tJ hR jP QY;refine xP mm (rounds (L:=L) (σ:=σ) (κ:=κ) (M:=M) (a:=a) (w:=w) (ws:=writes c) ?_ mm s0 κ0 M a w hl BR);intro s x κ1 M1 a1 w1 hH hf K' Z5 ZK;refine J6 hm hC c hF hro hf (by rw[hH.fr.size];exact hb) hH.rel fun e κ' M' σ' a' w' j4 j6 wb =>?_
     cases e with
     |normal=>
      simp only[qB]at wb;obtain⟨s',h1,rfl⟩:=wb;obtain⟨κ2,EC⟩:=Uk hR jP hH j4 j6 h1;exact Z5 s' κ2 M' a' w' rfl EC
     |exit i=>
      simp only[qB]at wb;obtain⟨r',h1,rfl⟩:=wb;have:=ZK _ rfl;subst this;obtain⟨wG,wL⟩:=bA hH j4 j6;exact hQ (.exit i) κ' M' _ a' w' wG wL h1
     |ret=>
      simp only[qB]at wb;obtain⟨r',h1,rfl⟩:=wb;have:=ZK _ rfl;subst this;obtain⟨wG,wL⟩:=bA hH j4 j6;exact hQ .ret κ' M' _ a' w' wG wL h1
   ·cases h
  |nil=>cases h
  |seq _ _=>cases h
  |cond _ _=>cases h
  |join _ _ _=>cases h
  |joinD _ _ _=>cases h
  |blk _=>cases h
  |frz _ _=>cases h
 | .rangeFunc g ps as c,F,nn,hF,hro,n,A,K,r,κ,M,σ,a,w,Q,h,hb,hR,hQ=>by
  rcases hro with⟨hro,Cv⟩|hro
  rotate_left
  ·cases hro
  simp only[vY]at h;simp only[okB,qg]at hb;cases n with
  |loopD L m=>
   simp only at h;split at h
   ·split at h
    ·cases h
    ·rename_i b e ox p t dU;split at h
     ·rename_i jP;simp only[qg,zO]at jP;split at h
      ·cases h
      ·rename_i s0 QY;obtain⟨xs,H4,h⟩:=qi.1 h;obtain⟨j,hl,hk⟩:=qi.1 h;refine y61 (hC.mf.symm.trans jP.1.2.2.2) hF hro Cv (K:=K) dU H4 jP.1.1 jP.1.2.1 jP.2 QY hl hb.2 hb.1.1 hR (fun l x s y κ1 M1 a1 w1 Q1 hy vQ Yk Mh =>?_) fun ex κ' M' σ' a' w' j4 j6 Za =>?_
       ·exact J6 hm hC c (F:=F.inRound l) ⟨hF.fn,hF.depth,hF.alive⟩ (.inr jP.1.2.2.1) hy (by rw[vQ];exact hb.1.2) Yk fun ex κ' M' σ' a' w' j4 j6 wb=>Mh ex κ' M' σ' a' w' j4 j6 wb
       ·refine hQ ex κ' M' σ' a' w' j4 j6 ?_;rcases Za with⟨s,rfl,rfl,rfl⟩|⟨r',rfl,_,wb⟩
        ·exact hk
        ·simp only[qb]at hk;rw[←hk];exact wb
     ·cases h
   ·rename_i e xs p dU;split at h
    ·rename_i jP;simp only[qg,zO]at jP;split at h
     ·cases h
     ·rename_i s0 QY;obtain⟨j,hl,hk⟩:=qi.1 h;refine y1v (hC.mf.symm.trans jP.2.2.2) hF hro Cv (K:=K) (G:=fun σ1=>vY Γ c m σ1 (A:=L.den⊕A) (fun ex σ'=>match ex with
       |.normal=>(L.grab (σ'.clear (writes (.rangeFunc g ps as c)))).map .inl
       |ex=>(K ex ((σ'.clear (writes (.rangeFunc g ps as c))).soil fun b=>σ.dirty b||L.gone b)).map .inr)) dU jP.1 jP.2.1 QY hl hb.2 hR (fun l x s y κ1 M1 a1 w1 K1 hy vQ Yk Z5 =>?_) (fun l y σ1 κ1 M1 a1 w1 Q1 hy vQ Yk Mh =>?_) fun ex κ' M' σ' a' w' j4 j6 Za =>?_
      ·refine J6 hm hC as (F:=F.inRound l) ⟨hF.fn,hF.depth,hF.alive⟩ (.inr jP.2.2.1.2) hy (by rw[vQ];exact hb.1.1) Yk fun ex κ' M' σ' a' w' j4 j6 wb =>?_
       cases ex with
       |normal=>exact Z5 κ' M' σ' a' w' j4 j6 wb
       |exit i=>cases wb
       |ret=>cases wb
      ·exact J6 hm hC c (F:=F.inRound l) ⟨hF.fn,hF.depth,hF.alive⟩ (.inr jP.2.2.1.1) hy (by rw[vQ];exact hb.1.2) Yk fun ex κ' M' σ' a' w' j4 j6 wb=>Mh ex κ' M' σ' a' w' j4 j6 wb
      ·refine hQ ex κ' M' σ' a' w' j4 j6 ?_;rcases Za with⟨s,rfl,rfl,rfl⟩|⟨r',rfl,_,wb⟩
       ·exact hk
       ·simp only[qb]at hk;rw[←hk];exact wb
    ·cases h
  |nil=>cases h
  |seq _ _=>cases h
  |cond _ _=>cases h
  |join _ _ _=>cases h
  |joinD _ _ _=>cases h
  |blk _=>cases h
  |loopB _ _ _ _=>cases h
  |loopBD _ _ _ _=>cases h
  |frz _ _=>cases h
 |.scope _,_,_,_,_,_,_,_,_,_,_,_,_,_,_,h,_,_,_=>by simp only[vY]at h;cases h
 |.label _,_,_,_,_,_,_,_,_,_,_,_,_,_,_,h,_,_,_=>by simp only[vY]at h;cases h
 |.goto _,_,_,_,_,_,_,_,_,_,_,_,_,_,_,h,_,_,_=>by simp only[vY]at h;cases h
 |.refuse _,_,_,_,_,_,_,_,_,_,_,_,_,_,_,h,_,_,_=>by simp only[vY]at h;cases h
theorem EV(hm:P.follows .mixedOrders=true)(hC:Qw P Γ){F:Fence}(hF:Open F){nn:Nat}(c:Code)(hro:(F.round=none∧1≤nn)∨V9 c=true){n:Ann}{A:Type}{K:Ex→St→Option A}{r:A}{κ:Nat→Option Nat}{M:Mem}{σ:St}{a:Act}{w:World}{Q:Exit→Act→World→Prop}
 (h:vY Γ c n σ K=some r) (hb:okB a.tmps.size c=true) (hR:jW P base κ M σ a w)
 (hQ:∀e κ' M' σ' a' w',jW P base κ' M' σ' a' w'→Fr base (writes c) κ M σ a w κ' M' σ' a' w'→K e σ'=some r→Q (YM e) a' w'):c.wpIn F nn P Q a w:=J6 hm hC c hF hro h hb hR hQ
end Go.Lift
namespace Go.Lift
open Go Go.RowKit
variable [wB] [Mf]
variable {P:Program} {Γ:QW} {base:Nat} {κ κ' κ2:Nat→Option Nat} {M M':Mem} {σ σ0 τ σ' τ':St} {a a':Act} {w w':World}
theorem Lx:∀{ts:List Ty} {i:Nat} {x:vx ts} {vs:List Value} {s:Nat} {v:AVal},Kh P M ts x vs→bE ts i x s=some v→∃j u,s=i+j∧vs[j]?=some u∧∃(t:Ty) (y:t.den),v = .data t y []∧jz P t M y u
 |[],_,_,_,_,_,_,h=>by cases h
 | [t],i,x,vs,s,v,⟨u,h1,h2⟩,h=>by
  subst h1;simp only[bE]at h;by_cases hs:s=i
  ·subst hs;simp only[jy,qb]at h;exact⟨0,u,rfl,rfl,t,x,h.symm,h2⟩
  ·rw[vN _ _ _ _ hs]at h;cases h
 | t::t'::r,i,x,vs,s,v,⟨u,rest,h1,h2,h3⟩,h=>by
  subst h1;simp only[bE]at h;by_cases hs:s=i
  ·subst hs;simp only[jy,qb]at h;exact⟨0,u,rfl,rfl,t,x.1,h.symm,h2⟩
  ·rw[vN _ _ _ _ hs]at h;obtain⟨j,u',e1,e2,e3⟩:=Lx h3 h;exact⟨j+1,u',by omega,e2,e3⟩
theorem ue:∀{ts:List Ty} {x:vx ts} {vs:List Value},Kh P M ts x vs→vs.length=ts.length
 |[],_,_,h=>by cases h;rfl
 |[t],x,vs,⟨u,h1,h2⟩=>by subst h1;rfl
 |t::t'::r,x,vs,⟨u,rest,h1,h2,h3⟩=>by subst h1;simp[ue h3]
theorem Lp{ts:List Ty}{x:vx ts}{vs:List Value}(hg:Good M w)(h:Kh P M ts x vs)(n:Nat):
  jW P w.heap.size (fun _=>none) M {env:=bE ts 0 x,box:=fun _=>none,tok:=fun _=>false,dirty:=fun _=>false} {tmps:=vs.toArray++Array.replicate n undef,defers:=[]} w:=by
 refine⟨fun s v hs =>?_,fun b B hB=>(by cases hB),hg,fun i j g hi=>(by cases hi),fun i g hi=>(by cases hi),fun i B hB=>(by cases hB),ql _⟩;obtain⟨j,u,e1,e2,t,y,rfl,e4⟩:=Lx h hs;have hj:j<vs.length:=(qp.1 e2).1;have:(vs.toArray++Array.replicate n undef).getD s undef=u:=by
  rw[qw,ku];have:s=j:=by omega
  subst this;rw[qH (by simpa using hj)];simp[e2]
 rw[this];exact⟨e4,WJ⟩
def mj(tmps:Array Value):ResultVar→Sem Value
 |.tmp t=>pure (tmps.getD t undef)
 |.cell a t=>do loadVar t (←asAddr (tmps.getD a undef))
theorem y8a(hC:Qw P Γ)(hR:jW P base κ M σ a w){t:Ty}{r:ResultVar}{y:t.den}(h:mI Γ σ t r=some y):∃v,(mj a.tmps r).run P w = .ok v w∧jz P t M y v:=by
 cases r with
 |tmp s=>
  simp only[mI]at h;exact⟨a.eval (.tmp s),by simp only[mj,qD];rfl,GH (x :=.tmp s) hR h⟩
 |cell s T=>
  simp only[mI]at h;split at h
  ·rename_i hT;split at h
   ·rename_i b hb;split at h
    ·rename_i B hB;split at h
     ·cases h
     ·rename_i FO;obtain⟨B',g,off,h1,h2,h3,h4⟩:=hR.env s _ hb;rw[hB]at h1;cases h1;obtain⟨g',jT,E,h5,h6,h7,h8,_⟩:=(hR.bx b B hB).cells (TB h3);rw[h2]at h5;cases h5;obtain⟨i,d,hi⟩:=Qx (hC.ty T t hT);obtain⟨e1,e2⟩:=HQ h;have Xa:Qv B.t B.x [] t=some y:=by unfold Qv;exact h
      obtain⟨r1,r2⟩:=Ut h7 h3 Xa;have jF:=bL hi r1 (w:=w) (zql h6 off t.size);refine⟨_,?_,GQ r1⟩;simp only[mj,h4,asAddr,qy,qD,qt,jF]
    ·cases h
   ·cases h
  ·cases h
theorem y8c(hC:Qw P Γ)(hR:jW P base κ M σ a w):∀{ts:List Ty} {rs:List ResultVar} {y:vx ts},results Γ σ ts rs=some y→∃vs:List Value,(rs.mapM (mj a.tmps)).run P w = .ok vs w∧Kh P M ts y vs
 |[],[],y,h=>⟨[],rfl,rfl⟩
 |[],_::_,y,h=>by cases h
 |[t],[],y,h=>by cases h
 |[t],[r],y,h=>by
  obtain⟨v,h1,h2⟩:=y8a hC hR (t:=t) h;exact⟨[v],by simp only[xm,xE,qy,h1,qt,qD],v,rfl,h2⟩
 |[t],r::r'::rs,y,h=>by cases h
 |t::u::ts,[],y,h=>by cases h
 | t::u::ts,r::rs,y,h=>by
  simp only[results]at h;split at h
  ·rename_i v v' h1 h2;simp only[qb]at h;subst h;obtain⟨x,a1,a2⟩:=y8a hC hR h1;obtain⟨xs,b1,b2⟩:=y8c hC hR h2;exact⟨x::xs,by simp only[xm,qy,a1,b1,qt,qD],x,xs,rfl,a2,b2⟩
  ·cases h
theorem y8b(hC:Qw P Γ)(hR:jW P base κ M σ a w){fn:Func}{ts:List Ty}{y:vx ts}(h:results Γ σ ts fn.results.toList=some y):∃v,(Go.results fn a.tmps).run P w = .ok v w∧VC P M ts y v:=by
 obtain⟨vs,h1,h2⟩:=y8c hC hR h;have OI:Go.results fn a.tmps=(do let vs ←fn.results.mapM (mj a.tmps);pure (if h:vs.size=1 then vs[0]else .tuple vs):Sem Value):=by
  unfold Go.results;congr 1
 have hl:=ue h2;refine⟨if h:vs.toArray.size=1 then vs.toArray[0]else .tuple vs.toArray,?_,?_⟩
 ·rw[OI,Array.mapM_eq_mapM_toList];simp only[qy,xX,h1,qt,qD]
 ·match ts,y,h2,hl with
  |[],_,h2,hl=>
   have hz:vs=[]:=xf.1 hl;subst hz;exact⟨#[],rfl,rfl⟩
  |[t],y,⟨v,h3,h4⟩,hl=>
   subst h3;exact h4
  |t::u::r,y,h2,hl=>
   rw[dif_neg (by simp at hl⊢;omega)];exact⟨_,rfl,h2⟩
theorem ud{F:Fence}{n:Nat}{fn:Func}{tmps:Array Value}{R:Ending→World→Prop}:∀(ms:List Nat) (w:World),ms.Nodup→(∀D,D∈ms→w.heap[D]?=some (.deferred (some [])))→
  (∀w',w.heap.size=w'.heap.size→(∀(κ:Nat→Option Nat) (M:Mem) (σ:St) (base:Nat) (a:Act),jW P base κ M σ a w→jW P base κ M σ a w')→(∀B,(∀D,D∈ms→B≤D)→B≤w.heap.size→Below B w w')→LeavesIn F n P fn tmps R [] .returning w')→
  LeavesInM F n P fn tmps R (ms.map fun D=>{target :=.collected D,args := #[]}) .returning w
 |[],w,_,_,h=>h w rfl (fun _ _ _ _ _ hR=>hR) (fun B _ _=>qN _ _)
 |D::ms,w,hn,hm,h=>by
  rw[z6]at hn;have hD:=hm D (by simp);have hlt:D<w.heap.size:=(qd.1 hD).1;refine⟨by simp,.inl ⟨D,_,rfl,run_takeDeferred hD,?_⟩⟩;refine ud ms _ hn.2 (fun D' Ke=>(zt (fun e=>hn.1 (by first|(rw[e];exact Ke)|(rw[←e];exact Ke)))).trans (hm D' (qo _ Ke))) fun w' hs vq Yj =>?_
  have hg:=grownBy_putObj' w D (.deferred none);refine h w' (by rw[←hs];simp) (fun κ M σ base a hR=>vq κ M σ base a (Ai (fun k e _ es c h=>by cases e;rw[hD]at h;cases h) hR hg fun k e=>by cases e;exact⟨_,hD,rfl⟩)) (fun B hB hBs =>?_);refine Below.trans ((qN B w).grown hg hBs fun k e=>by cases e;exact hB D (by simp)) (Yj B (fun D' Ke=>hB D' (qo _ Ke)) (by simpa using hBs))
theorem ya5(hm:P.follows .mixedOrders=true)(hC:Qw P Γ){f:FuncId}{fn:Func}{n:Ann}{s:Sig}(hf:P.funcs[f]?=some fn)(hs:s.f=f)
  (jF:∀x,jU Γ fn n s.ats s.rts x=s.run x):FC P s:=by
 intro x r hr M w vs hg Q3;rw[←jF]at hr;unfold jU at hr;split at hr
 ·rename_i c hc;split at hr
  ·rename_i jP;simp only[qg,Nat.ble_eq]at jP;have jH:=ue Q3;subst hs;unfold CK;have VN:({tmps:=vs.toArray++Array.replicate (fn.ntmps-vs.toArray.size) undef,defers:=[]}:Act).tmps.size=fn.ntmps:=by
    simp only[Array.size_append,qJ,Array.size_replicate];omega
   refine(xZ (n:=3)).1 (kJ hf hc True.intro ?_ rfl);refine EV hm hC ET c (.inl ⟨rfl,by decide⟩) hr (by rw[VN];exact jP.1) (Lp hg Q3 _) fun e κ' M' σ' a' w' j4 j6 hk =>?_
   have fin:results Γ σ' s.rts fn.results.toList=some r→LeavesInM Fence.wide 3 P fn a'.tmps (fun e w'=>∃M' v,e = .returned v∧VC P M' s.rts r v∧Good M' w'∧vm M w M' w') a'.defers .returning w':=fun hk=>by
    obtain⟨ms,h1,h2,h3,_⟩:=j6.defers;rw[h1,qL];refine ud ms w' h2 (fun D hD=>(h3 D hD).2) fun w2 hs vq Yj =>?_
    have wG:=vq _ _ _ _ _ j4;obtain⟨v,h4,h5⟩:=y8b hC wG hk;exact⟨v,h4,M',v,rfl,h5,wG.good,j6.below.trans (Yj w.heap.size (fun D hD=>(h3 D hD).1) j6.below.size),j6.mem⟩
   cases e with
   |normal=>exact fin hk
   |ret=>exact fin hk
   |exit i=>cases hk
  ·cases hr
 ·cases hr
def ydv(fn:Func)(e:Ty)(ex:Ex)(σ:St):Option (List e.den):=match ex with
 |.exit _=>none
 | _=>match fn.results.toList with
  | [.tmp s]=>match σ.env s with
   |some (.data u y own)=>match GG own with
    |some _=>Z8 u (.slice e) y
    |none=>none
   |_=>none
  |_=>none
theorem ybz(hm:P.follows .mixedOrders=true)(hC:Qw P Γ){f:FuncId}{fn:Func}{c:Code}{n:Ann}{e:Ty}{vs:List Value}{σ0:St}{l:List e.den}(hf:P.funcs[f]?=some fn)(hc:fn.body=some c)(jP:okB fn.ntmps c=true)(jH:vs.length≤fn.ntmps)
  (hR:jW P w.heap.size (fun _=>none) M σ0 {tmps:=vs.toArray++Array.replicate (fn.ntmps-vs.toArray.size) undef,defers:=[]} w) (hl:vY Γ c n σ0 (ydv fn e)=some l):z9n P f vs.toArray M w e l:=by
 unfold z9n;have VN:({tmps:=vs.toArray++Array.replicate (fn.ntmps-vs.toArray.size) undef,defers:=[]}:Act).tmps.size=fn.ntmps:=by
  simp only[Array.size_append,qJ,Array.size_replicate];omega
 refine(xZ (n:=3)).1 (kJ hf hc True.intro ?_ rfl);refine EV hm hC ET c (.inl ⟨rfl,by decide⟩) hl (by rw[VN];exact jP) hR fun ex κ' M' σ' a' w' j4 j6 hk =>?_
 have fin:(match fn.results.toList with
   | [.tmp s]=>match σ'.env s with
    |some (.data u y own)=>match GG own with
     |some _=>Z8 u (.slice e) y
     |none=>none
    |_=>none
   |_=>none)=some l→LeavesInM Fence.wide 3 P fn a'.tmps (fun e' w2=>∃M' v,e' = .returned v∧Good M' w2∧vm M w M' w2∧jz P (.slice e) M' l v∧
    (v = .slice none 0 0∨∃b n cap,v = .slice (some ⟨b,0,none⟩) n cap∧w.heap.size≤b∧zpd M' w2 e.size b n cap)) a'.defers .returning w':=fun hk=>by
  split at hk
  ·rename_i t ZD;split at hk
   ·rename_i u y own rj;split at hk
    ·rename_i st Bx;obtain⟨rfl,rfl⟩:=HQ hk;obtain⟨ms,h1,h2,h3,_⟩:=j6.defers;rw[h1,qL];refine ud ms w' h2 (fun D hD=>(h3 D hD).2) fun w2 hs vq Yj =>?_
     have wG:=vq _ _ _ _ _ j4;obtain⟨hv,ho⟩:=wG.env t _ rj;obtain⟨off,e2,v,o1,o2,o3,o4⟩:=ho _ _ (UP Bx);simp only[jN,qb]at o1;subst o1;simp only[Ty.atP,qb,Ty.slice.injEq]at o2;subst o2;have Qr:(a'.tmps.getD t undef).cells.toList=[a'.tmps.getD t undef]:=by
      unfold jz Qd at hv;simp only[Ty.agg,qA,zp,jB]at hv;obtain⟨v',ZC,h⟩:=hv;simp only[qM,zA]at ZC;rw[ZC];rcases h with⟨rfl,_⟩|⟨_,_,_,_,rfl,_⟩|⟨_,_,rfl,_⟩<;>rfl
     rw[Qr]at o3;simp only[zr,qb]at o3;subst o3;have FT:Good M' w2∧vm M w M' w2:=⟨wG.good,j6.below.trans (Yj w.heap.size (fun D hD=>(h3 D hD).1) j6.below.size),j6.mem⟩
     refine⟨a'.tmps.getD t undef,?_,M',_,rfl,FT.1,FT.2,hv,?_⟩
     ·unfold Go.results;have:fn.results=#[.tmp t]:=by apply yR;rw[ZD]
      rw[this];simp[qD,Array.mapM_eq_mapM_toList,xm,xE]
     ·cases st with
      |none=>exact .inl o4
      |some k=>
       obtain⟨_,o4⟩:=o4;refine o4.imp id ?_;rintro⟨g,n,cap,k1,k2,k3⟩;exact⟨g,n,cap,k2,(wG.kap k g k1).1,k3⟩
    ·cases hk
   ·cases hk
  ·cases hk
 cases ex with
 |normal=>exact fin hk
 |ret=>exact fin hk
 |exit i=>cases hk
noncomputable def Pv(Γ:QW)(fn:Func)(n:Ann)(ats:List Ty)(e0 e:Ty)(x:vx (.slice e0::ats)):Option (List e.den):=
 match fn.body with
 |some c=>if okB fn.ntmps c&&Nat.ble (ats.length+1) fn.ntmps then vY Γ c n {env:=vH (bE (.slice e0::ats) 0 x) 0 (some (.data (.slice e0) [] [([],none)])),box:=fun _=>none,tok:=fun _=>false,dirty:=fun _=>false} (ydv fn e)else none
 |none=>none
theorem y71(hm:P.follows .mixedOrders=true)(hC:Qw P Γ){f:FuncId}{fn:Func}{n:Ann}{ats:List Ty}{e0 e:Ty}(hf:P.funcs[f]?=some fn){x:vx (.slice e0::ats)}{l:List e.den}(hl:Pv Γ fn n ats e0 e x=some l)
  {vs:List Value} (hg:Good M w) (Q3:Kh P M (.slice e0::ats) x (.slice none 0 0::vs)):z9n P f (Value.slice none 0 0::vs).toArray M w e l:=by
 unfold Pv at hl;split at hl
 ·rename_i c hc;split at hl
  ·rename_i jP;simp only[qg,Nat.ble_eq]at jP;refine ybz hm hC hf hc jP.1 (by rw[ue Q3];exact jP.2) ?_ hl;have hR:=Lp hg Q3 (fn.ntmps-(Value.slice none 0 0::vs).toArray.size);refine⟨fun s v hs =>?_,fun b B hB=>(by cases hB),hg,fun i j g hi=>(by cases hi),fun i g hi=>(by cases hi),fun i B hB=>(by cases hB),ql _⟩;by_cases h0:s=0
   ·subst h0;simp only[jy,qb]at hs;subst hs;have:(((Value.slice none 0 0::vs).toArray++Array.replicate (fn.ntmps-(Value.slice none 0 0::vs).toArray.size) undef).getD 0 undef) = .slice none 0 0:=by rw[qw,ku,qH (by simp)];rfl
    rw[show({tmps:=(Value.slice none 0 0::vs).toArray++Array.replicate (fn.ntmps-(Value.slice none 0 0::vs).toArray.size) undef,defers:=[]}:Act).tmps.getD 0 undef = .slice none 0 0 from this];refine⟨?_,fun p s hm =>?_⟩;rotate_left
    ·simp only[qE,qX]at hm;obtain⟨rfl,rfl⟩:=hm;exact⟨0,_,.slice none 0 0,by simp[jN],by rw[Ty.atP],rfl,rfl⟩
    unfold jz Qd;simp only[Ty.agg,qA,zp];exact⟨_,rfl,.inl ⟨rfl,rfl⟩⟩
   ·simp only[vN _ _ _ _ h0]at hs;exact hR.env s v hs
  ·cases hl
 ·cases hl
end Go.Lift
namespace Go.Lift
open Go Go.RowKit
variable [wB] [Mf]
variable {P:Program} {Γ:QW} {base:Nat} {κ κ':Nat→Option Nat} {M M':Mem} {σ τ:St} {a a':Act} {w w':World}
def Q6(Γ:QW)(all:List Oper):List Nat→St→QD→{A:Type}→(St→QD→Option A)→Option A
 |[],σ,lg,_,k=>k σ lg
 | i::l,σ,lg,_,k=>match all[i]? with
  |some o=>match Yw all o σ with
   |some true=>SD Γ o σ fun σ'=>Q6 Γ all l σ' ((i,jG o σ)::lg) k
   |some false=>Q6 Γ all l (σ.set o.dst .undef) ((i,jG o σ)::lg) k
   |none=>none
  |none=>none
theorem ij{all:List Oper}:∀{l:List Nat} {σ:St} {lg:QD} {A:Type} {k:St→QD→Option A} {r:A},Q6 Γ all l σ lg k=some r→l.Nodup→(∀e∈lg,e.1∉l)→
  ∃τ Xl,z9j Γ all Xl l σ τ∧k τ Xl=some r∧(∀j f,(j,f)∈Xl→j∉l→(j,f)∈lg)∧(∀e∈Xl,e∈lg∨e.1∈l)
 |[],σ,lg,_,k,r,h,_,_=>⟨σ,lg,rfl,h,fun _ _ h _=>h,fun e he =>.inl he⟩
 | i :: l,σ,lg,A,k,r,h,hn,Fe=>by
  have key:∀(o:Oper) (σ1:St),all[i]?=some o→stepG Γ all o σ=some σ1→Q6 Γ all l σ1 ((i,jG o σ)::lg) k=some r→
    ∃τ Xl,z9j Γ all Xl (i::l) σ τ∧k τ Xl=some r∧(∀j f,(j,f)∈Xl→j∉i::l→(j,f)∈lg)∧(∀e∈Xl,e∈lg∨e.1∈i::l):=by
   intro o σ1 ho h1 h2;rw[z6]at hn;obtain⟨τ,Xl,hc,hk,XE,JD⟩:=ij h2 hn.2 (fun e he hm=>by
    rcases qF.1 he with rfl|he
    ·exact hn.1 hm
    ·exact Fe e he (qo _ hm))
   refine⟨τ,Xl,⟨o,σ1,ho,fun f hf =>?_,h1,hc⟩,hk,fun j f hf hj =>?_,fun e he =>?_⟩
   ·rcases qF.1 (XE i f hf hn.1)with h|h
    ·cases h;rfl
    ·exact absurd (by simp) (Fe _ h)
   ·rw[qF,not_or]at hj;rcases qF.1 (XE j f hf hj.2)with h|h
    ·cases h;exact absurd rfl hj.1
    ·exact h
   ·rcases JD e he with h|h
    ·rcases qF.1 h with rfl|h
     ·exact .inr (by simp)
     ·exact .inl h
    ·exact .inr (qo _ h)
  simp only[Q6]at h;split at h
  ·rename_i o ho;split at h
   ·rename_i hw;obtain⟨σ1,h1,h2⟩:=y4d h;exact key o σ1 ho (by unfold stepG;rw[hw];exact h1) h2
   ·rename_i hw;exact key o _ ho (by unfold stepG;rw[hw]) h
   ·cases h
  ·cases h
theorem aR{x y:Nat}(h:x<y):Nat.blt x y=true:=by rw[xw];exact h
theorem aS{x y:Nat}(h:y≤x):Nat.blt x y=false:=by
 cases hx:Nat.blt x y with
 |false=>rfl
 |true=>rw[xw]at hx;omega
def z49(n c:Nat):Array Bool:=((List.range n).map fun k=>Nat.blt k c).toArray
theorem y2n{jD:Array Bool}{n c:Nat}(hs:jD.size=n)(h:∀k,k<n→(jD.getD k true=false↔c≤k)):jD=z49 n c:=by
 apply Array.ext
 ·simp[z49,hs]
 ·intro k h1 h2;have hk:k<n:=by omega
  have:=h k hk;simp only[qw,qZ h1,qO]at this;simp only[z49,List.getElem_toArray,kA,List.getElem_range];cases hb:jD[k]with
  |true=>
   have:¬c≤k:=fun hc=>by rw[this.2 hc]at hb;cases hb
   exact(aR (by omega)).symm
  |false=>exact(aS (this.1 hb)).symm
theorem y60(hm:P.follows .mixedOrders=true)(hC:Qw P Γ){id:Nat}{jA:Array Oper}{c:Nat}(hc:c<jA.size)
  (VV:((List.range c).all fun k=>(List.range' c (jA.size-c)).all fun i=>((WF jA.toList []).getD i 0).testBit k)=true)
  {A:Type} {k:St→QD→Option A} {r:A} (h:Q6 Γ jA.toList (List.range c) σ [] k=some r) (hd:∀τ lg,k τ lg=some r→GI jA.toList lg=true)
  (h2:∀d,d∈QE jA.toList→d<a.tmps.size) (hR:jW P base κ M σ a w) {F:Fence} (hF:Open F) {n:Nat} {Q:Exit→Act→World→Prop}
  (hQ:∀Qg κ' M' τ lg a' w',jA.size-c≤Qg→jW P base κ' M' τ a' w'→Fr base (QE jA.toList) κ M σ a w κ' M' τ a' w'→k τ lg=some r→wpAnyIn F n P .any jA Q Qg (z49 jA.size c) a' w'):
  (Code.region id jA true).wpIn F n P Q a w:=by
 obtain⟨τ,lg,Ku,hk,_,_⟩:=ij h List.nodup_range (fun e he=>by simp at he);refine wpIn_region_any hm (zyf hC hF (hd τ lg hk) hc VV (l:=List.range c) (by simp) (by simp;omega) kl (fun k =>?_) (fun k _ hk =>?_) (fun j o ho hj =>?_) Ku (TZ hR) h2 fun Qg Z3 κ' M' a' w' hf hs hl j4 j6 =>?_)
 ·rw[xp];constructor
  ·intro hk;exact⟨hk,by simp[qw,show k<jA.size by omega]⟩
  ·exact fun h=>h.1
 ·simp[qw,hk]
 ·exfalso;rcases z7 j jA.size with hlt|hge
  ·simp[qw,hlt]at hj
  ·simp[qw,hge]at hj
 ·rw[y2n hs hl];exact hQ Qg κ' M' τ lg a' w' hf j4 (PQ.trans j6 (fun s hs=>hs) fun s hs=>hs) hk
theorem zz5(hm:P.follows .mixedOrders=true)(hC:Qw P Γ){id:Nat}{jA:Array Oper}
  {A:Type} {k:St→QD→Option A} {r:A} (h:Q6 Γ jA.toList (List.range jA.size) σ [] k=some r) (hd:∀τ lg,k τ lg=some r→GI jA.toList lg=true)
  (h2:∀d,d∈QE jA.toList→d<a.tmps.size) (hR:jW P base κ M σ a w) {F:Fence} (hF:Open F) {n:Nat} {Q:Exit→Act→World→Prop}
  (hQ:∀κ' M' τ lg a' w',jW P base κ' M' τ a' w'→Fr base (QE jA.toList) κ M σ a w κ' M' τ a' w'→k τ lg=some r→Q .normal a' w'):
  (Code.region id jA true).wpIn F n P Q a w:=by
 obtain⟨τ,lg,Ku,hk,_,_⟩:=ij h List.nodup_range (fun e he=>by simp at he);refine wpIn_region_any hm (Ub hC hF (hd τ lg hk) (l:=List.range jA.size) (by simp) (by simp) kl (fun k =>?_) (fun j o ho hj =>?_) Ku (TZ hR) h2 fun κ' M' a' w' j4 j6 =>?_)
 ·rw[xp];constructor
  ·intro hk;exact⟨hk,by simp[qw,hk]⟩
  ·exact fun h=>h.1
 ·exfalso;rcases z7 j jA.size with hlt|hge
  ·simp[qw,hlt]at hj
  ·simp[qw,hge]at hj
 ·exact hQ κ' M' τ lg a' w' j4 (PQ.trans j6 (fun s hs=>hs) fun s hs=>hs) hk
theorem y02(n c:Nat):(z49 n c).setIfInBounds c true=z49 n (c+1):=by
 apply Array.ext
 ·simp[z49]
 ·intro k h1 h2;simp only[z49,qJ,zg,List.length_range,kM]at h1 h2;rw[Array.getElem_setIfInBounds (by simpa [z49]using h1)];simp only[z49,List.getElem_toArray,kA,List.getElem_range];by_cases hk:c=k
  ·subst hk;simp[xw]
  ·rw[qT hk];rw[kn,xw,xw];omega
theorem Ag{F:Fence}(hF:Open F){n c:Nat}{jA:Array Oper}{o:Oper}{cc:Call}{f:FuncId}(ho:jA[c]?=some o)(hw:Region.wanted o (yielded jA a.tmps)=true)(jx:o.op = .call cc)(jI:cc.callee = .value (.func f))(rk:Enters P f)
  {Q:Exit→Act→World→Prop} {K:Act→World→Prop} {R:Ending→World→Prop} (QA:CallsIn F (n-1) P f (cc.args.map a.eval) w R) (hR:∀e w2,R e w2→∃v,e = .returned v∧K (a.put o.dst v) w2):wpOpIn F n P jA Q c K a w:=by
 refine mU ho ?_;rw[hw,qH rfl];refine⟨fun f _=>hF.fn f,?_⟩;rw[jo _ _ _ (fun c' hc=>by rw[jx]at hc;cases hc)];have jF:(execOp a.eval o).run P w = .ok (.enter f (cc.args.map a.eval)) w:=by simp[execOp,jx,resolve,jI,Act.eval,Deferred.ofValue,invoke,ni rk]
 rw[jF,xY];refine⟨fun hx=>(by rw[hF.depth]at hx;cases hx),QA.mono fun e w2 he =>?_⟩;obtain⟨v,rfl,hk⟩:=hR e w2 he;exact hk
theorem ydd{F:Fence}(hF:Open F){n c vC:Nat}{jA:Array Oper}{o:Oper}{cc:Call}{f:FuncId}(Du:Region.ready .any jA (z49 jA.size c)=[c])(ho:jA[c]?=some o)(hw:Region.wanted o (yielded jA a.tmps)=true)(jx:o.op = .call cc)(jI:cc.callee = .value (.func f))(rk:Enters P f)
  {Q:Exit→Act→World→Prop} {R:Ending→World→Prop} (QA:CallsIn F (n-1) P f (cc.args.map a.eval) w R) (hR:∀e w2,R e w2→∃v,e = .returned v∧wpAnyIn F n P .any jA Q vC (z49 jA.size (c+1)) (a.put o.dst v) w2):
  wpAnyIn F n P .any jA Q (vC+1) (z49 jA.size c) a w:=by
 refine⟨fun h=>(by rw[Du]at h;cases h),fun i hi =>?_⟩;rw[Du,qE]at hi;subst hi;rw[y02];exact Ag hF ho hw jx jI rk QA hR
theorem ydc(hC:Qw P Γ){F:Fence}(hF:Open F){n c vC:Nat}{jA:Array Oper}(hc:c≤jA.size)(hf:jA.size-c≤vC)
  {A:Type} {k:St→QD→Option A} {r:A} (lh:QD) (Cw:(lh.all fun e=>Nat.blt e.1 c)=true) (h:Q6 Γ jA.toList (List.range' c (jA.size-c)) σ lh k=some r) (hd:∀τ lg,k τ lg=some r→GI jA.toList lg=true)
  (ZR:((List.range c).all fun j=>match jA[j]? with|some o=>o.after.toList.all fun e => !(WY e)||Nat.blt e.on c|none=>true)=true)
  (h2:∀d,d∈QE jA.toList→d<a.tmps.size) (hR:jW P base κ M σ a w) {Q:Exit→Act→World→Prop}
  (hQ:∀κ' M' τ lg a' w',jW P base κ' M' τ a' w'→Fr base (QE jA.toList) κ M σ a w κ' M' τ a' w'→k τ lg=some r→Q .normal a' w'):wpAnyIn F n P .any jA Q vC (z49 jA.size c) a w:=by
 obtain⟨τ,lg,Ku,hk,_,_⟩:=ij h (List.nodup_range') (fun e he hm=>by
  have:=qW.1 Cw e he;rw[xw]at this;rw[xJ]at hm;omega)
 have Xa:∀j,(z49 jA.size c).getD j true=false↔j<jA.size∧c≤j:=fun j=>by
  simp only[z49,qw,List.getElem?_toArray,yG];by_cases hj:j<jA.size
  ·rw[List.getElem?_range hj];simp only[zK,qO];constructor
   ·intro hb;refine⟨hj,?_⟩;rcases z7 j c with hlt|hge
    ·rw[aR hlt]at hb;cases hb
    ·exact hge
   ·rintro⟨_,hc⟩;exact aS hc
  ·rw[zD (by simp;omega)];simp[hj]
 have ax:∀j,(z49 jA.size c).getD j false=true↔j<jA.size∧j<c:=fun j=>by
  simp only[z49,qw,List.getElem?_toArray,yG];by_cases hj:j<jA.size
  ·rw[List.getElem?_range hj];simp[xw,hj]
  ·rw[zD (by simp;omega)];simp[hj]
 refine Ub hC hF (hd τ lg hk) (l:=List.range' c (jA.size-c)) (by simp[z49]) (by simpa using hf) List.pairwise_lt_range' (fun j =>?_) (fun j o ho hj e he Kw =>?_) Ku hR h2 fun κ' M' a' w' j4 j6=>hQ κ' M' τ lg a' w' j4 j6 hk
 ·rw[Xa,xJ];omega
 ·obtain⟨h1,h2⟩:=(ax j).1 hj;have:=qW.1 ZR j (xp.2 h2);rw[zh]at ho;rw[ho]at this;have:=qW.1 this e (by simpa using he);rw[Kw]at this;simp only[zi,yF,xw]at this;exact(ax e.on).2 ⟨by omega,this⟩
theorem UW(hC:Qw P Γ){jA:Array Oper}{F:Fence}(hF:Open F){n:Nat}{Q:Exit→Act→World→Prop}{lg:QD}{l2:List Nat}:
  ∀{l:List Nat} {κ:Nat→Option Nat} {M:Mem} {σ:St} {a:Act} {w:World},z9j Γ jA.toList lg l σ τ→jW P base κ M σ a w→(∀d,d∈QE jA.toList→d<a.tmps.size)→
  (∀κ' M' a' w',jW P base κ' M' τ a' w'→Fr base (QE jA.toList) κ M σ a w κ' M' τ a' w'→wpOpsIn F n P jA Q l2 a' w')→wpOpsIn F n P jA Q (l++l2) a w
 |[],κ,M,σ,a,w,hc,hR,_,hQ=>by
  simp only[z9j]at hc;subst hc;exact hQ κ M a w hR Fr.refl
 |i::l,κ,M,σ,a,w,⟨o,σ1,h1,_,h3,h4⟩,hR,vQ,hQ=>by
  rw[qS,xo];refine tX hC hR h1 (fun d hd=>vQ d (CL h1 d hd)) h3 hF fun κ1 M1 a1 w1 Yk Wv =>?_
  refine UW hC hF h4 Yk (fun d hd=>by rw[Wv.size];exact vQ d hd) fun κ2 M2 a2 w2 wG wL =>?_
  refine hQ κ2 M2 a2 w2 wG (Wv.trans wL (fun s hs =>?_) fun s hs=>hs);exact CL h1 s (by simpa using hs)
end Go.Lift
namespace Go.Lift
open Go Go.RowKit
variable [wB] [Mf]
variable {P:Program} {Γ:QW} {base:Nat} {κ κ':Nat→Option Nat} {M M':Mem} {σ τ:St} {a a':Act} {w w':World}
abbrev Qi:=List (Nat×AVal)
def F0:Qi→Nat→Option AVal
 |[],_=>none
 |e::l,s=>bif Nat.beq s e.1 then some e.2 else F0 l s
def wR(l:Qi):St:={env:=F0 l,box:=fun _=>none,tok:=fun _=>false,dirty:=fun _=>false}
def AVal.thin:AVal→Option AVal
 |.data t x _=>some (.data t x [])
 |.raw v=>some (.raw v)
 |_=>none
def FH(P:Program)(M:Mem):AVal→Value→Prop
 |.data t x own,u=>jz P t M x u∧own=[]
 |.raw v,u=>u=v
 |_,_=>False
def Thin(P:Program)(M:Mem)(l:Qi)(a:Act)(w:World):Prop:=Good M w∧∀e∈l,FH P M e.2 (a.tmps.getD e.1 undef)
theorem gJ:∀{l:Qi} {s:Nat} {v:AVal},F0 l s=some v→(s,v)∈l
 |[],_,_,h=>by cases h
 | e::l,s,v,h=>by
  simp only[F0]at h;cases hb:Nat.beq s e.1 with
  |true=>
   rw[hb,qv,qb]at h;have:=qq hb;subst h this;exact zR
  |false=>
   rw[hb,qu]at h;exact qo _ (gJ h)
theorem Ar{l:Qi}(h:Thin P M l a w):jW P w.heap.size (fun _=>none) M (wR l) a w:=by
 refine⟨fun s v hs =>?_,fun b B hB=>(by cases hB),h.1,fun i j g hi=>(by cases hi),fun i g hi=>(by cases hi),fun i B hB=>(by cases hB),ql _⟩;have:=h.2 _ (gJ hs);simp only at this;cases v with
 |data t x own=>
  obtain⟨h1,h2⟩:=this;subst h2;exact⟨h1,WJ⟩
 |raw v=>exact this
 |bptr _ _=>exact this.elim
 |rowp _=>exact this.elim
 |mapp _=>exact this.elim
 |tup _ _=>exact this.elim
 |clo _ _=>exact this.elim
 |undef=>exact this.elim
 |iter _ _ _=>exact this.elim
theorem y8j(hM:Mem.le M M'){v:AVal}{u:Value}(h:FH P M v u):FH P M' v u:=by
 cases v with
 |data t x own=>exact⟨ZZ hM h.1,h.2⟩
 |raw v=>exact h
 |bptr _ _=>exact h
 |rowp _=>exact h
 |mapp _=>exact h
 |tup _ _=>exact h
 |clo _ _=>exact h
 |undef=>exact h
 |iter _ _ _=>exact h
theorem Thin.turn{l:Qi}(h:Thin P M l a w)(hg:Good M' w')(hM:Mem.le M M'):Thin P M' l a w':=⟨hg,fun e he=>y8j hM (h.2 e he)⟩
theorem Thin.put{l:Qi}(h:Thin P M l a w){d:Nat}{v:Value}{x:AVal}(hd:d<a.tmps.size)(hv:FH P M x v)(hl:l.all (fun e => !(Nat.beq e.1 d))=true):Thin P M ((d,x)::l) (a.put (some d) v) w:=by
 refine⟨h.1,fun e he =>?_⟩;rcases qF.1 he with rfl|he
 ·rw[mH a d v hd];exact hv
 ·have:=qW.1 hl e he;rw[Eg a (some d) v e.1 (fun k=>by
   simp only[qb]at k;rw[←k,ym]at this;cases this)]
  exact h.2 e he
theorem Thin.sub{l m:Qi}(h:Thin P M l a w)(hs:∀e∈m,e∈l):Thin P M m a w:=⟨h.1,fun e he=>h.2 e (hs e he)⟩
theorem Thin.data{l:Qi}(h:Thin P M l a w){s:Nat}{t:Ty}{x:t.den}(hs:(s,AVal.data t x [])∈l):jz P t M x (a.eval (.tmp s)):=(h.2 _ hs).1
theorem Thin.raw{l:Qi}(h:Thin P M l a w){s:Nat}{v:Value}(hs:(s,AVal.raw v)∈l):a.eval (.tmp s)=v:=h.2 _ hs
theorem tY{l:Qi}{args:Array Value}{k:Nat}(hg:Good M w)(h:∀e∈l,e.1<args.size∧FH P M e.2 (args.getD e.1 undef)):Thin P M l {tmps:=args++Array.replicate k undef,defers:=[]} w:=by
 refine⟨hg,fun e he =>?_⟩;obtain⟨h1,h2⟩:=h e he;have:(args++Array.replicate k undef).getD e.1 undef=args.getD e.1 undef:=by
  rw[qw,qw,ku,qH h1]
 show FH P M e.2 ((args++Array.replicate k undef).getD e.1 undef);rw[this];exact h2
def iY(ss:List Nat)(σ:St):Qi:=ss.filterMap fun s=>match σ.env s with
 |some v=>match v.thin with
  |some u=>some (s,u)
  |none=>none
 |none=>none
def X7:List Nat→St→Option St
 |[],σ=>some σ
 |b::l,σ=>match σ.freeze b with
  |some τ=>X7 l τ
  |none=>none
theorem mL(hR:jW P base κ M σ a w)(ss:List Nat):Thin P M (iY ss σ) a w:=by
 refine⟨hR.good,fun e he =>?_⟩;simp only[iY,yd]at he;obtain⟨s,_,he⟩:=he;split at he
 ·rename_i v hv;split at he
  ·rename_i u hu;simp only[qb]at he;subst he;have h:=hR.env s v hv;cases v with
   |data t x own=>
    simp only[AVal.thin,qb]at hu;subst hu;exact⟨h.1,rfl⟩
   |raw v=>
    simp only[AVal.thin,qb]at hu;subst hu;exact h
   |bptr _ _=>cases hu
   |rowp _=>cases hu
   |mapp _=>cases hu
   |tup _ _=>cases hu
   |clo _ _=>cases hu
   |undef=>cases hu
   |iter _ _ _=>cases hu
  ·cases he
 ·cases he
theorem CW:∀{l:List Nat} {κ:Nat→Option Nat} {M:Mem} {σ:St},jW P base κ M σ a w→X7 l σ=some τ→∃M',jW P base κ M' τ a w∧Fr base [] κ M σ a w κ M' τ a w
 |[],κ,M,σ,hR,h=>by simp only[X7,qb]at h;subst h;exact⟨M,hR,Fr.refl⟩
 | b::l,κ,M,σ,hR,h=>by
  simp only[X7]at h;split at h
  ·rename_i σ1 h1;obtain⟨M1,Yk,Wv⟩:=Ib hR h1;obtain⟨M2,wG,wL⟩:=CW Yk h;exact⟨M2,wG,Wv.trans wL (fun s hs=>by cases hs) fun s hs=>by cases hs⟩
  ·cases h
def XX(fz ss:List Nat)(e:Ex)(σ:St):Option (Ex×Qi):=match X7 fz σ with
 |some τ=>some (e,iY ss τ)
 |none=>none
def XY(jA:List Oper)(fz ss:List Nat)(σ:St)(lg:QD):Option Qi:=bif GI jA lg then(match X7 fz σ with
 |some τ=>some (iY ss τ)
 |none=>none)else none
def De(fz ss:List Nat)(σ:St)(_:QD):Option Qi:=match X7 fz σ with
 |some τ=>some (iY ss τ)
 |none=>none
structure F7 (M:Mem) (a:Act) (w:World) (M':Mem) (a':Act) (w':World):Prop where
 le:Mem.le M M'
 grow:vm M w M' w'
 size:a'.tmps.size=a.tmps.size
 defers:a'.defers=a.defers
theorem gG{W:List Nat}(h:Fr w.heap.size W κ M σ a w κ' M' τ a' w')(hn:lL∉W):F7 M a w M' a' w':=by
 refine⟨h.le,⟨h.below,h.mem⟩,h.size,?_⟩;obtain⟨ms,h1,_,_,h4⟩:=h.defers;cases ms with
 |nil=>exact h1
 |cons x l=>exact absurd (h4 (by simp)) hn
def noMark(W:List Nat):Bool:=W.all fun s => !(Nat.beq s lL)
theorem ES{W:List Nat}(h:noMark W=true):lL∉W:=fun hm=>by
 have:=qW.1 h _ hm;rw[ym]at this;cases this
theorem EQ(hm:P.follows .mixedOrders=true)(hC:Qw P Γ){F:Fence}(hF:Open F){nn:Nat}(c:Code)(hro:(F.round=none∧1≤nn)∨V9 c=true){n:Ann}{l l':Qi}{fz ss:List Nat}{e:Ex}{Q:Exit→Act→World→Prop}
  (h:vY Γ c n (wR l) (XX fz ss)=some (e,l')) (hb:okB a.tmps.size c=true) (Vh:noMark (writes c)=true) (hT:Thin P M l a w)
  (hQ:∀M' a' w',Thin P M' l' a' w'→F7 M a w M' a' w'→Q (YM e) a' w'):c.wpIn F nn P Q a w:=by
 refine EV hm hC hF c hro h hb (Ar hT) fun e' κ' M' σ' a' w' j4 j6 hk =>?_
 unfold XX at hk;split at hk
 ·rename_i τ hτ;simp only[qb,qX]at hk;obtain⟨rfl,rfl⟩:=hk;obtain⟨M2,wG,wL⟩:=CW j4 hτ;exact hQ M2 a' w' (mL wG ss) (gG (j6.trans wL (fun s hs=>hs) fun s hs=>by cases hs) (ES Vh))
 ·cases hk
theorem hZ{jA:List Oper}{fz ss:List Nat}{lg:QD}{l':Qi}(h:XY jA fz ss σ lg=some l'):GI jA lg=true∧∃τ,X7 fz σ=some τ∧l'=iY ss τ:=by
 unfold XY at h;cases ho:GI jA lg with
 |false=>rw[ho]at h;cases h
 |true=>
  rw[ho,qv]at h;split at h
  ·rename_i τ hτ;simp only[qb]at h;exact⟨rfl,τ,hτ,h.symm⟩
  ·cases h
theorem bh{jA:List Oper}{n:Nat}(h:(QE jA).all (fun d=>Nat.blt d n)=true):∀d,d∈QE jA→d<n:=fun d hd=>by
 have:=qW.1 h d hd;rwa [xw]at this
theorem y5q(hm:P.follows .mixedOrders=true)(hC:Qw P Γ){id:Nat}{jA:Array Oper}{l l':Qi}{fz ss:List Nat}{n0:Nat}
  (h:Q6 Γ jA.toList (List.range jA.size) (wR l) [] (XY jA.toList fz ss)=some l') (vQ:a.tmps.size=n0) (h2:(QE jA.toList).all (fun d=>Nat.blt d n0)=true) (Vh:noMark (QE jA.toList)=true) (hT:Thin P M l a w)
  {F:Fence} (hF:Open F) {n:Nat} {Q:Exit→Act→World→Prop} (hQ:∀M' a' w',Thin P M' l' a' w'→F7 M a w M' a' w'→Q .normal a' w'):(Code.region id jA true).wpIn F n P Q a w:=by
 subst vQ;refine zz5 hm hC h (fun τ lg hk=>(hZ hk).1) (bh h2) (Ar hT) hF fun κ' M' τ lg a' w' j4 j6 hk =>?_
 obtain⟨_,τ',hτ,rfl⟩:=hZ hk;obtain⟨M2,wG,wL⟩:=CW j4 hτ;exact hQ M2 a' w' (mL wG ss) (gG (j6.trans wL (fun s hs=>hs) fun s hs=>by cases hs) (ES Vh))
theorem yb9(hm:P.follows .mixedOrders=true)(hC:Qw P Γ){id:Nat}{jA:Array Oper}{c:Nat}{l l':Qi}{fz ss:List Nat}{n0:Nat}(hc:c<jA.size)
  (VV:((List.range c).all fun k=>(List.range' c (jA.size-c)).all fun i=>((WF jA.toList []).getD i 0).testBit k)=true)
  (h:Q6 Γ jA.toList (List.range c) (wR l) [] (XY jA.toList fz ss)=some l') (vQ:a.tmps.size=n0) (h2:(QE jA.toList).all (fun d=>Nat.blt d n0)=true) (Vh:noMark (QE jA.toList)=true) (hT:Thin P M l a w)
  {F:Fence} (hF:Open F) {n:Nat} {Q:Exit→Act→World→Prop} (hQ:∀Qg M' a' w',jA.size-c≤Qg→Thin P M' l' a' w'→F7 M a w M' a' w'→wpAnyIn F n P .any jA Q Qg (z49 jA.size c) a' w'):(Code.region id jA true).wpIn F n P Q a w:=by
 subst vQ;refine y60 hm hC hc VV h (fun τ lg hk=>(hZ hk).1) (bh h2) (Ar hT) hF fun Qg κ' M' τ lg a' w' hf j4 j6 hk =>?_
 obtain⟨_,τ',hτ,rfl⟩:=hZ hk;obtain⟨M2,wG,wL⟩:=CW j4 hτ;exact hQ Qg M2 a' w' hf (mL wG ss) (gG (j6.trans wL (fun s hs=>hs) fun s hs=>by cases hs) (ES Vh))
theorem y7w(hC:Qw P Γ){F:Fence}(hF:Open F){n c vC:Nat}{jA:Array Oper}{l l':Qi}{fz ss:List Nat}{n0:Nat}(hc:c≤jA.size)(hf:jA.size-c≤vC)
  (lh:QD) (Cw:(lh.all fun e=>Nat.blt e.1 c)=true) (h:Q6 Γ jA.toList (List.range' c (jA.size-c)) (wR l) lh (XY jA.toList fz ss)=some l')
  (ZR:((List.range c).all fun j=>match jA[j]? with|some o=>o.after.toList.all fun e => !(WY e)||Nat.blt e.on c|none=>true)=true)
  (vQ:a.tmps.size=n0) (h2:(QE jA.toList).all (fun d=>Nat.blt d n0)=true) (Vh:noMark (QE jA.toList)=true) (hT:Thin P M l a w) {Q:Exit→Act→World→Prop}
  (hQ:∀M' a' w',Thin P M' l' a' w'→F7 M a w M' a' w'→Q .normal a' w'):wpAnyIn F n P .any jA Q vC (z49 jA.size c) a w:=by
 subst vQ;refine ydc hC hF hc hf lh Cw h (fun τ lg hk=>(hZ hk).1) ZR (bh h2) (Ar hT) fun κ' M' τ lg a' w' j4 j6 hk =>?_
 obtain⟨_,τ',hτ,rfl⟩:=hZ hk;obtain⟨M2,wG,wL⟩:=CW j4 hτ;exact hQ M2 a' w' (mL wG ss) (gG (j6.trans wL (fun s hs=>hs) fun s hs=>by cases hs) (ES Vh))
theorem UB(hC:Qw P Γ){jA:Array Oper}{F:Fence}(hF:Open F){n:Nat}{Q:Exit→Act→World→Prop}{l l':Qi}{fz ss:List Nat}{n0:Nat}(i j:Nat){rest:List Nat}(hl:rest=List.range' i (jA.size-i))(hj:i+j≤jA.size)
  (h:Q6 Γ jA.toList (List.range' i j) (wR l) [] (De fz ss)=some l') (vQ:a.tmps.size=n0) (h2:(QE jA.toList).all (fun d=>Nat.blt d n0)=true) (Vh:noMark (QE jA.toList)=true) (hT:Thin P M l a w)
  (hQ:∀M' a' w',Thin P M' l' a' w'→F7 M a w M' a' w'→wpOpsIn F n P jA Q (List.range' (i+j) (jA.size-(i+j))) a' w'):wpOpsIn F n P jA Q rest a w:=by
 subst vQ hl;obtain⟨τ,lg,Ku,hk,_,_⟩:=ij h List.nodup_range' (fun e he=>by simp at he);have Zq:List.range' i (jA.size-i)=List.range' i j++List.range' (i+j) (jA.size-(i+j)):=by
  rw[List.range'_append_1];congr 1;omega
 rw[Zq];refine UW hC hF Ku (Ar hT) (bh h2) fun κ' M' a' w' j4 j6 =>?_
 unfold De at hk;split at hk
 ·rename_i τ' hτ;simp only[qb]at hk;subst hk;obtain⟨M2,wG,wL⟩:=CW j4 hτ;exact hQ M2 a' w' (mL wG ss) (gG (j6.trans wL (fun s hs=>hs) fun s hs=>by cases hs) (ES Vh))
 ·cases hk
theorem yc1{F:Fence}(hF:Open F)(hro:F.round=none){n c:Nat}{jA:Array Oper}{o:Oper}{cc:Call}{s l:Nat}(ho:jA[c]?=some o)(hg:o.guard=none)(jx:o.op = .call cc)(jI:cc.callee = .value (.tmp s))(hs:a.eval (.tmp s) = .func (.yield l) #[] #[])
  {Q:Exit→Act→World→Prop} {rest:List Nat} {R:Ending→World→Prop} (QA:YieldAt F (n-1) P l (cc.args.map a.eval) w R) (hR:∀e w2,R e w2→∃v,e = .returned v∧wpOpsIn F n P jA Q rest (a.put o.dst v) w2):wpOpsIn F n P jA Q (c::rest) a w:=by
 rw[xo];refine mU ho ?_;have hw:Region.wanted o (yielded jA a.tmps)=true:=by unfold Region.wanted;rw[hg]
 rw[hw,qH rfl];refine⟨fun f _=>hF.fn f,?_⟩;obtain⟨fn,tmps,assign,body,hy,hr⟩:=QA;rw[jo _ _ _ (fun c' hc=>by rw[jx]at hc;cases hc)];have jF:(execOp a.eval o).run P w = .ok (.round l fn tmps assign body) w:=by
  simp only[execOp,jx,resolve,jI,Deferred.ofValue,hs,invoke];simpa using hy
 rw[jF];simp only[Oper.uponIn_round];refine⟨fun hx=>(by rw[hF.depth]at hx;cases hx),hr.mono fun e w2 he =>?_⟩;obtain⟨v,rfl,hk⟩:=hR e w2 he;exact hk
def cF:Code→Code
 |.seq x _=>x
 |.cond _ x _=>x
 |.block _ x=>x
 |.loop x=>x
 |c=>c
def cS:Code→Code
 |.seq _ y=>y
 |.cond _ _ y=>y
 |c=>c
end Go.Lift
namespace Go.Lift
open Go Go.RowKit
variable [wB] [Mf]
variable {P:Program} {Γ:QW} {base:Nat} {κ κ':Nat→Option Nat} {M M':Mem} {σ τ:St} {a a':Act} {w w':World}
def Xv:List (Nat×Box)→Nat→Option Box
 |[],_=>none
 |e::l,s=>bif Nat.beq s e.1 then some e.2 else Xv l s
def Qc(l:Qi)(bs:List (Nat×Box)):St:={env:=F0 l,box:=Xv bs,tok:=fun _=>false,dirty:=fun _=>true}
def Se(o:Own):Own:=o.filter fun e=>e.2.isNone
def Sd(B:Box):Box:={B with own:=Se B.own}
def ZO(ids:List Nat)(σ:St):List (Nat×Box):=ids.filterMap fun b=>match σ.box b with
 |some B=>some (b,Sd B)
 |none=>none
def Y5(ss ids:List Nat)(σ:St):Qi:=ss.filterMap fun s=>match σ.env s with
 |some (.data t x o)=>some (s,.data t x (Se o))
 |some (.raw v)=>some (s,.raw v)
 |some (.bptr b p)=>bif ids.any fun i=>Nat.beq i b then some (s,.bptr b p)else none
 |_=>none
theorem gI:∀{l:List (Nat×Box)} {s:Nat} {v:Box},Xv l s=some v→(s,v)∈l
 |[],_,_,h=>by cases h
 | e::l,s,v,h=>by
  simp only[Xv]at h;cases hb:Nat.beq s e.1 with
  |true=>
   rw[hb,qv,qb]at h;have:=qq hb;subst h this;exact zR
  |false=>
   rw[hb,qu]at h;exact qo _ (gI h)
theorem Ue:∀{ids:List Nat} {b:Nat} {B:Box},b∈ids→σ.box b=some B→Xv (ZO ids σ) b=some (Sd B)
 |[],_,_,h,_=>by cases h
 | i :: ids,b,B,h,hB=>by
  have ih:=fun h=>Ue (ids:=ids) (b:=b) (B:=B) h hB
  unfold ZO at ih⊢;by_cases hi:i=b
  ·subst hi;rw[List.filterMap_cons,hB];simp only[Xv,ym,qv]
  ·have hm:b∈ids:=by
    rcases qF.1 h with h|h
    ·exact absurd h.symm hi
    ·exact h
   rw[List.filterMap_cons];have ju:Nat.beq b i=false:=by
    cases hb:Nat.beq b i with
    |false=>rfl
    |true=>exact absurd (qq hb).symm hi
   split
   ·exact ih hm
   ·rename_i y hy;split at hy
    ·rename_i B' vB;simp only[qb]at hy;subst hy;simp only[Xv,ju,qu];exact ih hm
    ·cases hy
theorem UQ{tk Vy:Nat→Bool}{t:Ty}{cs:List Value}{o:Own}(h:z93 κ M w tk t cs o):z93 κ M w Vy t cs (Se o):=by
 intro p s hm;unfold Se at hm;rw[yw]at hm;obtain⟨hm,hs⟩:=hm;cases s with
 |some k=>cases hs
 |none=>
  obtain⟨off,e,v,h1,h2,h3,h4⟩:=h p none hm;exact⟨off,e,v,h1,h2,h3,h4⟩
theorem sO(hR:jW P base κ M σ a w)(ss ids:List Nat):jW P base κ M (Qc (Y5 ss ids σ) (ZO ids σ)) a w:=by
 refine⟨fun s v hs =>?_,fun b B hB =>?_,hR.good,hR.inj,hR.kap,fun i B hB=>rfl,hR.low⟩
 ·have hm:=gJ hs;simp only[Y5,yd]at hm;obtain⟨s',_,hm⟩:=hm;split at hm
  ·rename_i t x o hv;simp only[qb,qX]at hm;obtain⟨rfl,rfl⟩:=hm;have h:=hR.env _ _ hv;exact⟨h.1,UQ h.2⟩
  ·rename_i u hv;simp only[qb,qX]at hm;obtain⟨rfl,rfl⟩:=hm;exact hR.env _ _ hv
  ·rename_i b p hv;cases hb:ids.any fun i=>Nat.beq i b with
   |false=>rw[hb]at hm;cases hm
   |true=>
    rw[hb,qv]at hm;simp only[qb,qX]at hm;obtain⟨rfl,rfl⟩:=hm;obtain⟨i,hi,XG⟩:=zI.1 hb;have:=qq XG;subst this;obtain⟨B,g,off,h1,h2,h3,h4⟩:=hR.env _ _ hv;exact⟨Sd B,g,off,Ue hi h1,h2,h3,h4⟩
  ·cases hm
 ·have hm:=gI hB;simp only[ZO,yd]at hm;obtain⟨b',_,hm⟩:=hm;split at hm
  ·rename_i B0 Zh;simp only[qb,qX]at hm;obtain⟨rfl,rfl⟩:=hm;obtain⟨g,h1,h2,h3⟩:=hR.bx _ _ Zh;refine⟨g,h1,h2,?_⟩;rcases h3 with⟨jT,E,k1,k2,k3⟩|⟨tid,k,v,l,es,c,rfl,k2⟩
   ·exact .inl ⟨jT,E,k1,k2,UQ k3⟩
   ·exact .inr ⟨tid,k,v,l,es,c,rfl,k2⟩
  ·cases hm
structure zni (base:Nat) (M:Mem) (a:Act) (w:World) (M':Mem) (a':Act) (w':World):Prop where
 le:Mem.le M M'
 below:Below base w w'
 mem:∀b,b<base→M' b=M b
 size:a'.tmps.size=a.tmps.size
theorem zni.refl:zni base M a w M a w:=⟨Mem.le_refl _,qN _ _,fun _ _=>rfl,rfl⟩
theorem zni.trans{M2:Mem}{a2:Act}{w2:World}(h:zni base M a w M' a' w')(k:zni base M' a' w' M2 a2 w2):zni base M a w M2 a2 w2:=
 ⟨Mem.le_trans h.le k.le,h.below.trans k.below,fun b hb=>(k.mem b hb).trans (h.mem b hb),k.size.trans h.size⟩
theorem gL{W:List Nat}(h:Fr base W κ M σ a w κ' M' τ a' w'):zni base M a w M' a' w':=⟨h.le,h.below,h.mem,h.size⟩
theorem mq(hm:P.follows .mixedOrders=true)(hC:Qw P Γ){F:Fence}(hF:Open F){nn:Nat}{x y z:Code}(hro:(F.round=none∧1≤nn)∨V9 x=true){n:Ann}{A:Type}{K:Ex→St→Option A}{r:A}{Q:Exit→Act→World→Prop}
  (h:vY Γ (.seq x y) n σ K=some r) (hb:okB a.tmps.size x=true) (Vh:noMark (writes x)=true) (hR:jW P base κ M σ a w)
  (hn:∀κ' M' σ' a' w',jW P base κ' M' σ' a' w'→zni base M a w M' a' w'→a'.defers=a.defers→vY Γ y n.r σ' K=some r→z.wpIn F nn P Q a' w')
  (hx:∀e κ' M' σ' a' w',e ≠ .normal→jW P base κ' M' σ' a' w'→zni base M a w M' a' w'→a'.defers=a.defers→K e σ'=some r→Q (YM e) a' w'):(Code.seq x z).wpIn F nn P Q a w:=by
 simp only[vY]at h;refine zq (EV hm hC hF x hro h hb hR fun e κ' M' σ' a' w' j4 j6 hk =>?_);have hd:a'.defers=a.defers:=by
  obtain⟨ms,h1,_,_,h4⟩:=j6.defers;cases ms with
  |nil=>exact h1
  |cons x l=>exact absurd (h4 (by simp)) (ES Vh)
 cases e with
 |normal=>exact hn κ' M' σ' a' w' j4 (gL j6) hd hk
 |exit i=>exact hx (.exit i) κ' M' σ' a' w' (by intro h;cases h) j4 (gL j6) hd hk
 |ret=>exact hx .ret κ' M' σ' a' w' (by intro h;cases h) j4 (gL j6) hd hk
def HI{X D:Type}(f:X→D→Option D):List X→D→Option D
 |[],d=>some d
 |x::l,d=>(f x d).bind fun d'=>HI f l d'
theorem Rf{X D:Type}{f:X→D→Option D}:∀{l m:List X} {d:D},HI f (l++m) d=(HI f l d).bind fun d'=>HI f m d'
 |[],_,_=>rfl
 |x::l,m,d=>by
  simp only[qS,HI,Option.bind_assoc];cases f x d with
  |none=>rfl
  |some d'=>exact Rf
theorem ya8{X D:Type}{f:X→D→Option D}{l m:List X}{d r:D}(h:HI f (l++m) d=some r):∃d',HI f l d=some d'∧HI f m d'=some r:=by
 rw[Rf]at h;obtain⟨d',h1,h2⟩:=qi.1 h;exact⟨d',h1,h2⟩
theorem y8o(hm:P.follows .mixedOrders=true)(hC:Qw P Γ)(HA:Mf.on=false){F:Fence}(hF:Open F)(hro:F.round=none){nn:Nat}(Cv:1≤nn){q p:Nat}{as c:Code}{na nc:Ann}{e:Ty}{xs:List e.den}{D:Type}{l:Qi}{bs:D→List (Nat×Box)}{f:e.den→D→Option D}{d0 dn:D}{ss ids:List Nat}{Q:Exit→Act→World→Prop}
  (wI:∀x d,vY Γ as na ((Qc l (bs d)).setD p e x) (fun ex τ=>match ex with
   |.normal=>vY Γ c nc τ (fun ex τ'=>match ex with
    |.normal=>some (Y5 ss ids (τ'.clear (writes (.rangeFunc (.tmp q) #[p] as c))),ZO ids (τ'.clear (writes (.rangeFunc (.tmp q) #[p] as c))))
    |_=>none)
   |_=>none)=(f x d).map fun d'=>(l,bs d'))
  (JI:HI f xs d0=some dn) (hna:V9 as=true) (ak:V9 c=true) (hp:p<a.tmps.size) (hoa:okB a.tmps.size as=true) (SO:okB a.tmps.size c=true)
  (H7:jz P (.seq e) M xs (a.eval (.tmp q))) (hR:jW P base κ M (Qc l (bs d0)) a w)
  (hQ:∀κ' M' a' w' D,jW P base κ' M' (Qc l (bs dn)) a' w'→zni base M a w M' a' w'→a'.defers={target :=.collected D,args := #[]}::a.defers→w'.heap[D]?=some (.deferred (some []))→w.heap.size≤D→(∀s,a'.tmps.getD s undef=a.tmps.getD s undef)→Q .normal a' w'):
  (Code.rangeFunc (.tmp q) #[p] as c).wpIn F nn P Q a w:=by
 obtain⟨ws,Y8⟩:∃ws,ws=writes (.rangeFunc (.tmp q) #[p] as c):=⟨_,rfl⟩
 rw[←Y8]at wI;have S8:∀i,i∈writes as→i∈ws:=fun i hi=>by rw[Y8];simp only[writes];exact q8 _ (q8 _ (zx _ hi))
 have Ey:∀i,i∈writes c→i∈ws:=fun i hi=>by rw[Y8];simp only[writes];exact q8 _ (zx _ hi)
 have Vg:p∈ws:=by rw[Y8];simp[writes]
 obtain⟨gf,lb,hu,hY⟩:∃gf lb,a.eval (.tmp q) = .func (.func gf) #[] lb∧y17 P (fun M' x v=>jz P e M' x v) M xs gf lb:=by
  obtain⟨gf,lb,h1,h2⟩:jB P (.seq e) M xs [a.eval (.tmp q)]:=H7;simp only[qM,zA]at h1;exact⟨gf,lb,h1,h2⟩
 let G:D→St→Prop:=fun d' σ1=>vY Γ c nc σ1 (fun ex τ'=>match ex with
    |.normal=>some (Y5 ss ids (τ'.clear ws),ZO ids (τ'.clear ws))
    |_=>none)=some (l,bs d')
 refine I7 hro Cv hF.depth hF.fn hF.alive hu hY (by simp)
  (fun pre N W=>∃d κ1,HI f pre d0=some d∧jW P base κ1 N (Qc l (bs d)) a W∧zni base M a w N a W)
  (fun _ _ _ _=>False)
  (fun pre N W ⟨_,_,_,hH,_⟩=>hH.good) (fun _ _ _ _ h=>h.elim) ?gi (fun _ _ _ _ _ _ h=>h.elim) ?own (fun _ _ _ _ _ _ _ h=>h.elim) ⟨d0,κ,rfl,hR,zni.refl⟩
  (fun pre x N a' W=>∃d d' κ2 σ1,HI f pre d0=some d∧f x d=some d'∧G d' σ1∧jW P base κ2 N σ1 a' W∧zni base M a w N a W∧a'.tmps.size=a.tmps.size∧∀i,i∉ws→a'.tmps.getD i undef=a.tmps.getD i undef)
  ?ownA ?assign ?body ?done (fun _ _ _ _ _ _ _ h=>h.elim)
 case gi=>
  rintro pre N A N' B ⟨d,κ1,h1,hH,hk⟩ hg jZ;refine⟨d,κ1,h1,(Ee hH jZ.below hg jZ.mem).2.2,hk.trans ⟨(CM hH jZ.below jZ.mem hg).le,jZ.below.mono hH.low,fun b hb=>jZ.mem b (qV hb hH.low),rfl⟩⟩
 case own=>
  rintro pre N _ W W' row ⟨d,κ1,h1,hH,hk⟩ hg vX;exact⟨d,κ1,h1,Ai (fun _ _ h=>by rw[HA]at h;cases h) hH hg fun k e=>(vX k e).2,hk.le,hk.below.grown hg (ze hR.low hk.below.size) (fun k e=>ze hR.low (vX k e).1),hk.mem,hk.size⟩
 case ownA=>
  rintro pre x N a' _ W W' row ⟨d,d',κ2,σ1,h1,h2,h3,h4,hk,h6,h7⟩ hg vX;exact⟨d,d',κ2,σ1,h1,h2,h3,Ai (fun _ _ h=>by rw[HA]at h;cases h) h4 hg fun k e=>(vX k e).2,⟨hk.le,hk.below.grown hg (ze hR.low hk.below.size) (fun k e=>ze hR.low (vX k e).1),hk.mem,hk.size⟩,h6,h7⟩
 case assign=>
  rintro lp pre x N W v K' ⟨d,κ1,h1,hH,hk⟩ ⟨rest,vc⟩ hv hK;obtain⟨d',VU⟩:∃d',f x d=some d':=by
   rw[←vc,zM]at JI;obtain⟨d1,e1,e2⟩:=ya8 JI;rw[h1]at e1;cases e1;simp only[qS,qP,HI]at e2;obtain⟨d',e3,_⟩:=qi.1 e2;exact⟨d',e3⟩
  have hB:Array.foldl (fun t x=>t.setIfInBounds x.fst x.snd) a.tmps ((#[p]:Array Tmp).zip #[v])=a.tmps.setIfInBounds p v:=by simp
  have Yk:jW P base κ1 N ((Qc l (bs d)).setD p e x) {tmps:=a.tmps.setIfInBounds p v,defers:=[]} W:=by
   refine y3x hv hH (fun i v hi he =>?_) ?_
   ·simp only;rw[AI (fun e=>hi e.symm)]
   ·simp only;exact nj hp
  show as.wpIn (F.inRound lp) (nn-1-1) P (Exit.then K' (fun _ _ _=>False)) {tmps:=Array.foldl (fun t x=>t.setIfInBounds x.fst x.snd) a.tmps ((#[p]:Array Tmp).zip #[v]),defers:=[]} W;rw[hB];have Zd:=wI x d;rw[VU,zK]at Zd;refine EV hm hC (F:=F.inRound lp) ⟨hF.fn,hF.depth,hF.alive⟩ as (.inr hna) Zd (by simpa using hoa) Yk fun ex κ' M' σ' a' W' j4 j6 wb =>?_
  cases ex with
  |exit i=>cases wb
  |ret=>cases wb
  |normal=>
   have JE:KeepsOthers W W':=⟨j6.below.size,fun k o h ho=>j6.oth k o h (mP HA (by cases o<;>first|rfl|cases ho))⟩
   refine hK M' a' W' j6.le JE ⟨d,d',κ',σ',h1,VU,wb,j4,⟨Mem.le_trans hk.le j6.le,hk.below.trans j6.below,fun b hb=>(j6.mem b hb).trans (hk.mem b hb),rfl⟩,j6.size.trans (by simp),fun i hi =>?_⟩;rw[j6.tmps i (fun h=>hi (S8 i h))];simp only;rw[AI (fun e=>hi (by rw[←e];exact Vg))]
 case body=>
  rintro lp pre x N a1 W ⟨d,d',κ1,σ1,h1,hy,hG,Yk,XF,vQ,SJ⟩ vc;refine EV hm hC (F:=F.inRound lp) ⟨hF.fn,hF.depth,hF.alive⟩ c (.inr ak) hG (by rw[vQ];exact SO) Yk fun ex κ' M' σ' a' W' j4 j6 hk =>?_
  have JE:KeepsOthers W W':=⟨j6.below.size,fun k o h ho=>j6.oth k o h (mP HA (by cases o<;>first|rfl|cases ho))⟩
  cases ex with
  |exit i=>cases hk
  |ret=>cases hk
  |normal=>
   simp only[qb,qX]at hk;have eX:jW P base κ' M' (σ'.clear ws) a W':=by
    refine Ah (Uu j4) fun i v hi =>?_
    have DB:=Uf hi;rw[j6.tmps i (fun h=>DB (Ey i h)),SJ i DB]
   have FX:=sO eX ss ids;rw[hk.1,hk.2]at FX;refine⟨JE,M',j6.le,d',κ',?_,FX,⟨Mem.le_trans XF.le j6.le,XF.below.trans j6.below,fun b hb=>(j6.mem b hb).trans (XF.mem b hb),rfl⟩⟩;rw[Rf,h1];simp only[qh,HI,hy]
 case done=>
  rintro Dm N W hD ⟨d,κ1,h1,hH,hk⟩ hK;rw[JI]at h1;simp only[qb]at h1;subst h1;exact hQ κ1 N _ W Dm (Ah hH fun _ _ _=>rfl) ⟨hk.le,hk.below,hk.mem,rfl⟩ rfl hK hD fun _=>rfl
end Go.Lift
