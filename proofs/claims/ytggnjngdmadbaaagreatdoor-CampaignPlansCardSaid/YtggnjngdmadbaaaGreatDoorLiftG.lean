/-
  One operation of a walk, whole; operations in a row.
-/
import Derived.Test.YtggnjngdmadbaaaGreatDoorLiftF
set_option linter.all false
namespace Go.Lift
open Go Go.RowKit
variable [wB] [Mf]
variable {P:Program} {Γ:QW} {base:Nat} {κ κ':Nat→Option Nat} {M M':Mem} {σ σ':St} {a a':Act} {w w':World}
structure Open (F:Fence):Prop where
 fn:∀f,F.fn f
 depth:F.depth=none
 alive:F.alive=false
theorem ET:Open Fence.wide:=⟨fun _=>True.intro,rfl,rfl⟩
theorem y69(l:Nat):Open (Fence.wide.inRound l):=⟨fun _=>True.intro,rfl,rfl⟩
theorem Open.fenced{F:Fence}(h:Open F)(m:Machine):m.fenced P F:=by
 intro g _;exact⟨fun ha=>(by rw[h.alive]at ha;cases ha),.inl (h.fn _),fun _ _=>h.fn _,fun d hd=>(by rw[h.depth]at hd;cases hd)⟩
theorem Open.calls{F:Fence}(h:Open F){n:Nat}{f:FuncId}{args:Array Value}{R:Ending→World→Prop}(hc:Calls P f args w R):CallsIn F n P f args w R:=by
 refine⟨h.fn f,fun cs _ =>?_⟩;obtain⟨e,w',fr,r,s,x⟩:=hc cs;refine⟨e,w',fr,r,?_,x⟩;cases e with
 |returned v=>exact(stepsIn_wide.2 s).mono fun m _=>h.fenced m
 |panicked c=>exact(stepsIn_wide.2 s).mono fun m _=>h.fenced m
 |outgrown=>exact s
def Marks(q:Prop)(w w':World)(ds fL:List Deferred):Prop:=∃ms:List Nat,fL=ms.map (fun D=>{target :=.collected D,args := #[]})++ds∧ms.Nodup∧(∀D,D∈ms→w.heap.size≤D∧w'.heap[D]?=some (.deferred (some [])))∧(ms≠[]→q)
theorem Marks.of_eq{q:Prop}{w w':World}{ds fL:List Deferred}(h:fL=ds):Marks q w w' ds fL:=⟨[],h,xn,(fun _ h=>by cases h),fun h=>absurd rfl h⟩
theorem Marks.mono{q r:Prop}{w w':World}{ds fL:List Deferred}(h:Marks q w w' ds fL)(hq:q→r):Marks r w w' ds fL:=by
 obtain⟨ms,h1,h2,h3,h4⟩:=h;exact⟨ms,h1,h2,h3,fun h=>hq (h4 h)⟩
theorem Marks.trans{q r t:Prop}{w0 w1 w2:World}{d0 d1 d2:List Deferred}(h:Marks q w0 w1 d0 d1)(hs:w0.heap.size≤w1.heap.size)(ho:∀(j:Nat) (o:Obj),w1.heap[j]?=some o→cv o=true→w2.heap[j]?=some o)(k:Marks r w1 w2 d1 d2)(hq:q→t)(hr:r→t):Marks t w0 w2 d0 d2:=by
 obtain⟨m1,e1,n1,h1,q1⟩:=h;obtain⟨m2,e2,n2,h2,q2⟩:=k;refine⟨m2++m1,by rw[e2,e1,zv,zM],yj.2 ⟨n2,n1,fun x hx y hy e =>?_⟩,fun D hD =>?_,fun hm =>?_⟩
 ·subst e;have q1:=(h2 x hx).1;have q2:=(qd.1 (h1 x hy).2).1;omega
 ·rcases zB.1 hD with hD|hD
  ·exact⟨ze hs (h2 D hD).1,(h2 D hD).2⟩
  ·exact⟨(h1 D hD).1,ho D _ (h1 D hD).2 rfl⟩
 ·cases m2 with
  |nil=>exact hq (q1 (by simpa using hm))
  |cons x l=>exact hr (q2 (by simp))
structure Same (κ:Nat→Option Nat) (M:Mem) (w:World) (κ':Nat→Option Nat) (M':Mem) (w':World):Prop where
 frame:∀j,j<w.heap.size→(∀i,κ i≠some j)→w'.heap[j]?=w.heap[j]?
 src:∀i j,κ' i=some j→(∃i',κ i'=some j)∨w.heap.size≤j
 mem:∀j,j<w.heap.size→(∀i,κ i≠some j)→M' j=M j
theorem Same.refl{κ:Nat→Option Nat}{M:Mem}{w:World}:Same κ M w κ M w:=⟨fun _ _ _=>rfl,fun i _ h =>.inl ⟨i,h⟩,fun _ _ _=>rfl⟩
theorem Same.of{κ κ':Nat→Option Nat}{M M':Mem}{w w':World}(h:∀j,j<w.heap.size→(∀i,κ i≠some j)→w'.heap[j]?=w.heap[j]?)(hk:∀i j,κ' i=some j→(∃i',κ i'=some j)∨w.heap.size≤j)(hm:∀j,j<w.heap.size→(∀i,κ i≠some j)→M' j=M j):Same κ M w κ' M' w':=⟨h,hk,hm⟩
theorem Same.trans{κ κ1 κ2:Nat→Option Nat}{M M1 M2:Mem}{w w1 w2:World}(h:Same κ M w κ1 M1 w1)(hs:w.heap.size≤w1.heap.size)(k:Same κ1 M1 w1 κ2 M2 w2):Same κ M w κ2 M2 w2:=by
 have Ys:∀j,j<w.heap.size→(∀i,κ i≠some j)→∀i,κ1 i≠some j:=fun j hj hn i hi=>by
  rcases h.src i j hi with⟨i',Xq⟩|h
  ·exact hn i' Xq
  ·omega
 refine⟨fun j hj hn =>?_,fun i j hi =>?_,fun j hj hn =>?_⟩
 ·exact(k.frame j (by omega) (Ys j hj hn)).trans (h.frame j hj hn)
 ·rcases k.src i j hi with⟨i',Xq⟩|h'
  ·exact h.src i' j Xq
  ·exact .inr (ze hs h')
 ·exact(k.mem j (by omega) (Ys j hj hn)).trans (h.mem j hj hn)
theorem Same.below{κ:Nat→Option Nat}{M M':Mem}{w w':World}(h:Below w.heap.size w w')(hm:∀b,b<w.heap.size→M' b=M b):Same κ M w κ M' w':=⟨fun j hj _=>h.block j hj,fun i _ h =>.inl ⟨i,h⟩,fun j hj _=>hm j hj⟩
structure Fr (base:Nat) (W:List Nat) (κ:Nat→Option Nat) (M:Mem) (σ:St) (a:Act) (w:World) (κ':Nat→Option Nat) (M':Mem) (σ':St) (a':Act) (w':World):Prop where
 below:Below base w w'
 le:Mem.le M M'
 mem:∀b,b<base→M' b=M b
 size:a'.tmps.size=a.tmps.size
 defers:Marks (lL∈W) w w' a.defers a'.defers
 tmps:∀s,s∉W→a'.tmps.getD s undef=a.tmps.getD s undef
 ids:∀i,i∉W→σ'.dirty i=false→σ.dirty i=false∧Holds κ M w κ' M' w' i
 bx:∀i,i∉W→∀B',σ'.box i=some B'→κ' i=κ i∧∃B,σ.box i=some B∧Alike B B'
 oth:∀(j:Nat) (o:Obj),w.heap[j]?=some o→cv o=true→w'.heap[j]?=some o
 same:Same κ M w κ' M' w'
theorem Alike.trans{A B C:Box}(h:Alike A B)(k:Alike B C):Alike A C:=by
 obtain⟨x,o,rfl,h1⟩:=h;obtain⟨y,q,rfl,h2⟩:=k;exact⟨y,q,rfl,fun p=>(h2 p).trans (h1 p)⟩
theorem Fr.refl{W:List Nat}:Fr base W κ M σ a w κ M σ a w:=
 ⟨qN _ _,Mem.le_refl _,fun _ _=>rfl,rfl,.of_eq rfl,fun _ _=>rfl,fun _ _ h=>⟨h,rfl,fun _ _=>⟨rfl,fun _=>rfl⟩⟩,fun _ _ B h=>⟨rfl,B,h,Alike.refl B⟩,fun _ _ h _=>h,Same.refl⟩
theorem Fr.trans{W V U:List Nat}{κ2:Nat→Option Nat}{M2:Mem}{σ2:St}{a2:Act}{w2:World}(h:Fr base W κ M σ a w κ' M' σ' a' w')(k:Fr base V κ' M' σ' a' w' κ2 M2 σ2 a2 w2)
  (h1:∀s,s∈W→s∈U) (h2:∀s,s∈V→s∈U):Fr base U κ M σ a w κ2 M2 σ2 a2 w2:=by
 refine⟨h.below.trans k.below,Mem.le_trans h.le k.le,fun b hb=>(k.mem b hb).trans (h.mem b hb),k.size.trans h.size,h.defers.trans h.below.size k.oth k.defers (h1 _) (h2 _),fun s hs=>(k.tmps s fun m=>hs (h2 s m)).trans (h.tmps s fun m=>hs (h1 s m)),fun i hi hd =>?_,fun i hi B' vB =>?_,fun j o hj ho=>k.oth j o (h.oth j o hj ho) ho,h.same.trans h.below.size k.same⟩;rotate_left
 ·obtain⟨e1,B1,aK,a1⟩:=k.bx i (fun m=>hi (h2 i m)) B' vB;obtain⟨e2,B2,sh,a2⟩:=h.bx i (fun m=>hi (h1 i m)) B1 aK;exact⟨e1.trans e2,B2,sh,a2.trans a1⟩
 obtain⟨d1,e1,e2⟩:=k.ids i (fun m=>hi (h2 i m)) hd;obtain⟨d2,e3,e4⟩:=h.ids i (fun m=>hi (h1 i m)) d1;refine⟨d2,e1.trans e3,fun g hg =>?_⟩;obtain⟨p1,p2⟩:=e4 g hg;obtain⟨p3,p4⟩:=e2 g (e3.trans hg);exact⟨p3.trans p1,fun o=>(p4 o).trans (p2 o)⟩
theorem Fr.mono{W U:List Nat}(h:Fr base W κ M σ a w κ' M' σ' a' w')(h1:∀s,s∈W→s∈U):Fr base U κ M σ a w κ' M' σ' a' w':=
 ⟨h.below,h.le,h.mem,h.size,h.defers.mono (h1 _),fun s hs=>h.tmps s fun m=>hs (h1 s m),fun i hi hd=>h.ids i (fun m=>hi (h1 i m)) hd,fun i hi=>h.bx i (fun m=>hi (h1 i m)),h.oth,h.same⟩
theorem KZ(a:Act)(d:Option Nat)(v:Value):(a.put d v).tmps.size=a.tmps.size:=by cases d<;>simp[Act.put]
theorem put_defers(a:Act)(d:Option Nat)(v:Value):(a.put d v).defers=a.defers:=by cases d<;>rfl
theorem mH(a:Act)(d:Nat)(v:Value)(h:d<a.tmps.size):(a.put (some d) v).tmps.getD d undef=v:=by
 simp[Act.put,h]
theorem Eg(a:Act)(d:Option Nat)(v:Value)(s:Nat)(h:d≠some s):(a.put d v).tmps.getD s undef=a.tmps.getD s undef:=by
 cases d with
 |none=>rfl
 |some d=>
  have ju:d≠s:=fun e=>h (by rw[e])
  simp[Act.put,qw,yr ju]
theorem jy{α:Type}(f:Nat→α)(k:Nat)(v:α):vH f k v k=v:=by simp[vH]
theorem vN{α:Type}(f:Nat→α)(k s:Nat)(v:α)(h:s≠k):vH f k v s=f s:=by
 have:Nat.beq s k=false:=by
  cases hb:Nat.beq s k with
  |false=>rfl
  |true=>exact absurd (qq hb) h
 simp[vH,this]
theorem EN(σ:St)(d:Option Nat)(v:AVal):(σ.set d v).box=σ.box:=by cases d<;>rfl
theorem CO(σ:St)(d:Option Nat)(v:AVal):(σ.set d v).tok=σ.tok:=by cases d<;>rfl
theorem mS(σ:St)(d:Option Nat)(v:AVal):(σ.set d v).dirty=σ.dirty:=by cases d<;>rfl
theorem tw(σ:St)(d:Option Nat):(σ.unset d).box=σ.box:=by cases d<;>rfl
theorem C1(σ:St)(d:Option Nat):(σ.unset d).tok=σ.tok:=by cases d<;>rfl
theorem U9(σ:St)(d:Option Nat):(σ.unset d).dirty=σ.dirty:=by cases d<;>rfl
theorem Ci(σ:St)(d:Option Nat)(v:AVal)(s:Nat)(h:d≠some s):(σ.set d v).env s=σ.env s:=by
 cases d with
 |none=>rfl
 |some d=>exact vN _ _ _ _ fun e=>h (by rw[e])
theorem uu(σ:St)(d:Option Nat)(s:Nat)(h:d≠some s):(σ.unset d).env s=σ.env s:=by
 cases d with
 |none=>rfl
 |some d=>exact vN _ _ _ _ fun e=>h (by rw[e])
theorem CN(hR:jW P base κ M σ a w){d:Option Nat}(hd:∀s,d=some s→s<a.tmps.size){v:AVal}{u:Value}(h:RelA P κ M w σ.box σ.tok v u):jW P base κ M (σ.set d v) (a.put d u) w:=by
 refine⟨fun s v' hs =>?_,?_,hR.good,hR.inj,hR.kap,?_,hR.low⟩
 ·rw[EN,CO];by_cases WR:d=some s
  ·subst WR;rw[mH _ _ _ (hd s rfl)];simp only[St.set,jy,qb]at hs;subst hs;exact h
  ·rw[Eg _ _ _ _ WR];rw[Ci _ _ _ _ WR]at hs;exact hR.env s v' hs
 ·rw[EN,CO];exact hR.bx
 ·rw[EN,CO];exact hR.dis
theorem bb{d:Option Nat}{v:AVal}{u:Value}:Fr base d.toList κ M σ a w κ M (σ.set d v) (a.put d u) w:=
 ⟨qN _ _,Mem.le_refl _,fun _ _=>rfl,KZ _ _ _,.of_eq (put_defers _ _ _),fun s hs=>Eg _ _ _ _ (fun e=>hs (by simp[e])),fun i _ hd=>by rw[mS]at hd;exact⟨hd,rfl,fun _ _=>⟨rfl,fun _=>rfl⟩⟩,fun i _ B h=>by rw[EN]at h;exact⟨rfl,B,h,Alike.refl B⟩,fun _ _ h _=>h,Same.refl⟩
theorem Ee(hR:jW P base κ M σ a w)(hb:Below w.heap.size w w')(hg:Good M' w')(hm:∀b,b<w.heap.size→M' b=M b):
  Mem.le M M'∧(∀i,Holds κ M w κ M' w' i)∧jW P base κ M' σ a w':=by
 have jL:Mem.le M M':=by
  intro b o v h;have:=zc w _ (hR.good.2 b o v h);rw[hm b this];exact h
 have hh:∀i,Holds κ M w κ M' w' i:=fun i=>⟨rfl,fun g hk=>by
  have:=(hR.kap i g hk).2;exact⟨hb.block g this,fun o=>by rw[hm g this]⟩⟩
 refine⟨jL,hh,fun s v hs =>?_,fun b B hB =>?_,hg,hR.inj,fun i g hk =>?_,hR.dis,ze hR.low hb.size⟩
 ·exact(hR.env s v hs).turn jL (fun _ _=>rfl) (fun i _ ht=>⟨ht,hh i⟩) (fun i B _ hB=>⟨B,hB,Alike.refl B⟩)
 ·exact(hR.bx b B hB).turn jL (hh b) (fun _ k _ ht=>⟨ht,hh k⟩)
 ·have:=hR.kap i g hk;have:=hb.size;omega
theorem CM(hR:jW P base κ M σ a w)(hb:Below w.heap.size w w')(hm:∀b,b<w.heap.size→M' b=M b)(hg:Good M' w'):Fr base [] κ M σ a w κ M' σ a w':=
 ⟨hb.mono hR.low,(Ee hR hb hg hm).1,fun b h=>hm b (qV h hR.low),rfl,.of_eq rfl,fun _ _=>rfl,fun i _ hd=>⟨hd,(Ee hR hb hg hm).2.1 i⟩,fun i _ B h=>⟨rfl,B,h,Alike.refl B⟩,fun j o h _=>(hb.block j (qd.1 h).1).trans h,Same.below hb hm⟩
theorem ybq{ts:List Ty}{x:vx ts}{v:Value}(h:VC P M ts x v)(bo:Nat→Option Box)(tk:Nat→Bool):RelA P κ M w bo tk (AVal.res ts x) v:=by
 match ts,x,h with
 |[],_,⟨vs,h1,h2⟩=>exact⟨vs,h1,h2⟩
 |[t],x,h=>exact⟨h,WJ⟩
 |t::u::r,x,⟨vs,h1,h2⟩=>exact⟨vs,h1,h2⟩
theorem TU{bo:Nat→Option Box}{tk:Nat→Bool}{d:Nat}(h1:bo d=none)(h2:tk d=false){v:AVal}{u:Value}(h:RelA P κ M w bo tk v u):¬v.leans d:=by
 intro hl;cases v with
 |data t x own=>
  obtain⟨p,hm⟩:=hl;obtain⟨_,_,_,_,_,_,hv⟩:=h.2 p (some d) hm;have Q4:=hv.1;rw[h2]at Q4;cases Q4
 |bptr b p=>
  obtain⟨B,g,off,h3,_⟩:=h;cases hl;rw[h1]at h3;cases h3
 |rowp b=>
  obtain⟨tid,e,l,own,g,cap,h3,_⟩:=h;cases hl;rw[h1]at h3;cases h3
 |mapp b=>
  obtain⟨tid,k,v,l,own,g,h3,_⟩:=h;cases hl;rw[h1]at h3;cases h3
 |iter b e F=>
  obtain⟨tid,s,own,g,gf,lb,h3,_⟩:=h;cases hl;rw[h1]at h3;cases h3
 |tup ts x=>exact hl
 |undef=>exact hl
 |raw _=>exact hl
 |clo g caps=>
  obtain⟨vs,_,hc⟩:=h;have key:∀(cs:List EF) (vs:List Value),zf9 P κ M bo cs vs → .inl d∈cs→False:=by
   intro cs;induction cs with
   |nil=>intro _ _ hm;cases hm
   |cons c r ih=>
    intro vs ⟨v,rest,_,h3,h4⟩ hm;rcases qF.1 hm with rfl|hm
    ·obtain⟨B,g,h5,_⟩:=h3;rw[h1]at h5;cases h5
    ·exact ih rest h4 hm
  exact key caps vs.toList hc hl
theorem zzo{tk:Nat→Bool}{d:Nat}(h2:tk d=false){b:Nat}{B:Box}(h:RelB P κ M w tk b B):∀p,(p,some d)∉B.own:=by
 intro p hm;obtain⟨_,_,_,⟨_,_,_,_,ho⟩|⟨_,_,_,_,_,_,rfl,_⟩⟩:=h;rotate_left
 ·cases hm
 obtain⟨_,_,_,_,_,_,hv⟩:=ho p (some d) hm;have Q4:=hv.1;rw[h2]at Q4;cases Q4
def Vn(κ:Nat→Option Nat)(d g:Nat):Nat→Option Nat:=fun i=>if i=d then some g else if κ i=some g then none else κ i
theorem GJ(d g:Nat):Vn κ d g d=some g:=qH rfl
theorem y7v(h:∀i j g,κ i=some g→κ j=some g→i=j)(d g:Nat):∀i j k,Vn κ d g i=some k→Vn κ d g j=some k→i=j:=by
 intro i j k hi hj;unfold Vn at hi hj;split at hi<;>split at hj
 ·omega
 ·rename_i h1 h2;simp only[qb]at hi;subst hi;split at hj
  ·cases hj
  ·rename_i h3;exact absurd hj h3
 ·rename_i h1 h2;simp only[qb]at hj;subst hj;split at hi
  ·cases hi
  ·rename_i h3;exact absurd hi h3
 ·split at hi
  ·cases hi
  ·split at hj
   ·cases hj
   ·exact h i j k hi hj
theorem iu{d g i:Nat}(h1:i≠d)(h2:κ i≠some g):Vn κ d g i=κ i:=by
 unfold Vn;rw[qT h1,qT h2]
theorem y5n{d g i k:Nat}(h:Vn κ d g i=some k):(i=d∧k=g)∨κ i=some k:=by
 unfold Vn at h;split at h
 ·rename_i h1;simp only[qb]at h;exact .inl ⟨h1,h.symm⟩
 ·split at h
  ·cases h
  ·exact .inr h
theorem Ay(hR:jW P base κ M σ a w){d g:Nat}(WR:d<a.tmps.size)(Zs:σ.box d=none)(VL:σ.tok d=false)(YH:base≤g)(hlt:g<w'.heap.size)(vQ:w.heap.size≤w'.heap.size)
  (Qz:∀i,κ i=some g→σ.tok i=false∧σ.box i=none)
  (hb:∀j,j≠g→j<w.heap.size→w'.heap[j]?=w.heap[j]?) (hm:∀j,j≠g→M' j=M j) (hg:Good M' w') (jL:Mem.le M M')
  {v:AVal} {u:Value} {Gv:Nat→Option Box} {Vy:Nat→Bool} (Gl:∀i,i≠d→Gv i=σ.box i) (Ve:∀i,i≠d→Vy i=σ.tok i) (aC:∀B,Gv d=some B→Vy d=false)
  (hv:RelA P (Vn κ d g) M' w' Gv Vy v u) (hB:∀B,Gv d=some B→RelB P (Vn κ d g) M' w' Vy d B):
  jW P base (Vn κ d g) M' {σ with env:=vH σ.env d (some v),box:=Gv,tok:=Vy} (a.put (some d) u) w':=by
 have hh:∀i,i≠d→κ i≠some g→Holds κ M w (Vn κ d g) M' w' i:=fun i h1 h2=>⟨iu h1 h2,fun k hk=>by
  have ju:k≠g:=fun e=>h2 (e▸hk)
  exact⟨hb k ju (hR.kap i k hk).2,fun o=>by rw[hm k ju]⟩⟩
 have Yd:∀i,i≠d→σ.tok i=true→Vy i=true∧Holds κ M w (Vn κ d g) M' w' i:=fun i h1 h2=>by
  refine⟨by rw[Ve i h1];exact h2,hh i h1 fun e =>?_⟩;rw[(Qz i e).1]at h2;cases h2
 refine⟨fun s v' hs =>?_,fun b B X5 =>?_,hg,y7v hR.inj d g,fun i k hk =>?_,fun i B vB =>?_,ze hR.low vQ⟩
 ·by_cases Xi:s=d
  ·subst Xi;rw[mH _ _ _ WR];simp only[jy,qb]at hs;subst hs;exact hv
  ·rw[Eg _ _ _ _ (fun e=>Xi (by simpa using e.symm))];simp only[vN _ _ _ _ Xi]at hs;have h:=hR.env s v' hs;have hnl:=TU Zs VL h;have ek:∀i B,v'.leans i→σ.box i=some B→i≠d:=fun i B _ hB e=>by rw[e,Zs]at hB;cases hB
   refine h.turn jL (fun i hi =>?_) (fun i hi ht=>Yd i (fun e=>hnl (e▸hi)) ht) (fun i B hi hB=>⟨B,(Gl i (ek i B hi hB)).trans hB,Alike.refl B⟩);have hid:i≠d:=fun e=>hnl (e▸hi)
   refine iu hid fun e =>?_
   obtain⟨e1,e2⟩:=Qz i e;exact TU e2 e1 h hi
 ·by_cases eP:b=d
  ·subst eP;exact hB B X5
  ·simp only[Gl b eP]at X5;have h:=hR.bx b B X5;refine h.turn jL (hh b eP fun e =>?_) (fun p k hm' ht=>Yd k (fun e=>zzo VL h p (e▸hm')) ht);rw[(Qz b e).2]at X5;cases X5
 ·rcases y5n hk with⟨_,rfl⟩|hk
  ·exact⟨YH,hlt⟩
  ·have:=hR.kap i k hk;omega
 ·by_cases hid:i=d
  ·subst hid;exact aC B vB
  ·simp only[Ve i hid];simp only[Gl i hid]at vB;exact hR.dis i B vB
theorem Al(hR:jW P base κ M σ a w){d g:Nat}(YH:base≤g)(lE:Below 0 w w')
  (Qz:∀i,κ i=some g→σ'.dirty i=true∧(i≠d→σ'.box i=none)) (Gl:∀i B',i≠d→σ'.box i=some B'→∃B,σ.box i=some B∧Alike B B')
  (hb:∀j,j≠g→j<w.heap.size→w'.heap[j]?=w.heap[j]?) (hm:∀j,j≠g→j<w.heap.size→M' j=M j) (jL:Mem.le M M') (BJ:∀i,σ'.dirty i=false→σ.dirty i=false) (Ev:∀o,w.heap[g]?=some o→oN o=true) (eA:(∃i,κ i=some g)∨w.heap.size≤g) {u:Value}:
  Fr base [d] κ M σ a w (Vn κ d g) M' σ' (a.put (some d) u) w':=by
 refine⟨⟨lE.os,lE.tape,lE.output,lE.size,fun k hk=>hb k (by omega) (qV hk hR.low)⟩,jL,fun b X5=>hm b (by omega) (qV X5 hR.low),KZ _ _ _,.of_eq (put_defers _ _ _),fun s hs=>Eg _ _ _ _ (fun e=>hs (by simp at e;simp[e])),fun i hi hd =>?_,fun i hi B' vB =>?_,fun j o h ho=>(hb j (fun e=>by subst e;rw[yfb (Ev o h)]at ho;cases ho) (qd.1 h).1).trans h,?_⟩;rotate_left
 ·have hid:i≠d:=fun e=>hi (by simp[e])
  refine⟨iu hid fun e =>?_,Gl i B' hid vB⟩;rw[(Qz i e).2 hid]at vB;cases vB
 ·have hjg:∀j,j<w.heap.size→(∀i,κ i≠some j)→j≠g:=fun j hj hn e=>by
   subst e;rcases eA with⟨i,hi⟩|h
   ·exact hn i hi
   ·omega
  refine⟨fun j hj hn=>hb j (hjg j hj hn) hj,fun i j hi =>?_,fun j hj hn=>hm j (hjg j hj hn) hj⟩;by_cases hid:i=d
  ·subst hid;rw[GJ]at hi;cases hi;exact eA
  ·by_cases hg:κ i=some g
   ·unfold Vn at hi;simp[hid,hg]at hi
   ·rw[iu hid hg]at hi;exact .inl ⟨i,hi⟩
 have hid:i≠d:=fun e=>hi (by simp[e])
 have ju:κ i≠some g:=fun e=>by rw[(Qz i e).1]at hd;cases hd
 refine⟨BJ i hd,iu hid ju,fun k hk =>?_⟩;have:k≠g:=fun e=>ju (e▸hk)
 exact⟨hb k this (hR.kap i k hk).2,fun o=>by rw[hm k this (hR.kap i k hk).2]⟩
end Go.Lift
namespace Go.Lift
open Go Go.RowKit
variable [wB] [Mf]
variable {P:Program} {Γ:QW} {base:Nat} {κ κ':Nat→Option Nat} {M M':Mem} {σ σ':St} {a a':Act} {w w':World}
def ZI(Γ:QW)(o:Oper)(σ:St):Option St:=(jK Γ o σ).runK o.dst σ some
theorem y8m{k:Nat}{bo Gv:Nat→Option Box}{tk Vy:Nat→Bool}(Gl:∀i B,bo i=some B→∃B',Gv i=some B'∧Alike B B')(Ve:∀i,i≠k→tk i=true→Vy i=true){v:AVal}{u:Value}(h:RelA P κ M w bo tk v u):
  RelA P κ M w Gv Vy (v.lose k) u:=by
 cases v with
 |data t x o=>
  refine⟨h.1,h.2.turn fun p s hm =>?_⟩;simp only[Own.lose,yw,zP,ne_eq]at hm;refine⟨hm.1,fun j hj ht=>⟨Ve j (fun e=>hm.2 (by rw[hj,e])) ht,rfl,fun _ _=>⟨rfl,fun _=>rfl⟩⟩⟩
 |bptr b p=>
  obtain⟨B,g,off,h1,h2,h3,h4⟩:=h;obtain⟨B',h5,x',wu,rfl,h6⟩:=Gl b B h1;exact⟨_,g,off,h5,h2,(h6 p).trans h3,h4⟩
 |rowp b=>
  obtain⟨tid,e,l,own,g,cap,h1,h2,h0,h3⟩:=h;obtain⟨B',h5,x',wu,rfl,h6⟩:=Gl b _ h1;exact⟨tid,e,x',wu,g,cap,h5,h2,by rw[iw h6];exact h0,by rw[iw h6];exact h3⟩
 |mapp b=>
  obtain⟨tid,k,v,l,own,g,h1,h2,h3⟩:=h;obtain⟨B',h5,x',wu,rfl,h6⟩:=Gl b _ h1;exact⟨tid,k,v,x',wu,g,h5,h2,h3⟩
 |iter b e F=>
  obtain⟨tid,s,own,g,gf,lb,h1,h2,h3,h4⟩:=h;obtain⟨B',h5,x',wu,rfl,h6⟩:=Gl b _ h1;exact⟨tid,x',wu,g,gf,lb,h5,h2,h3,h4⟩
 |tup ts x=>exact h
 |undef=>exact h
 |raw _=>exact h
 |clo g caps=>
  obtain⟨vs,h1,h2⟩:=h;refine⟨vs,h1,h2.turn (Mem.le_refl M) fun b _=>⟨rfl,fun B hB =>?_⟩⟩;obtain⟨B',h5,x',wu,rfl,h6⟩:=Gl b B hB;exact⟨_,h5,rfl⟩
theorem ybp(hR:jW P base κ M σ a w)(s:Option Nat):jW P base κ M (σ.lose s) a w:=by
 cases s with
 |none=>exact hR
 |some k=>
  have Gl:∀i B,σ.box i=some B→∃B',(σ.box i).map (Box.lose k)=some B'∧Alike B B':=fun i B hB=>⟨B.lose k,by rw[hB];rfl,B.x,_,rfl,fun _=>rfl⟩
  have Ve:∀i,i≠k→σ.tok i=true→(bif Nat.beq i k then false else σ.tok i)=true:=fun i hi ht=>by
   have:Nat.beq i k=false:=by
    cases hb:Nat.beq i k with
    |false=>rfl
    |true=>exact absurd (qq hb) hi
   rw[this];exact ht
  refine⟨fun s v hs =>?_,fun b B hB =>?_,hR.good,hR.inj,hR.kap,fun i B hB =>?_,hR.low⟩
  ·simp only[St.lose,qB]at hs;obtain⟨v0,H5,rfl⟩:=hs;exact y8m Gl Ve (hR.env s v0 H5)
  ·simp only[St.lose,qB]at hB;obtain⟨B0,Zh,rfl⟩:=hB;obtain⟨g,h1,h5,⟨jT,E,h2,h3,h4⟩|⟨tid,kt,vt,l,es,c,rfl,h3,h4⟩⟩:=hR.bx b B0 Zh;rotate_left
   ·exact⟨g,h1,h5,.inr ⟨tid,kt,vt,l,es,c,rfl,h3,h4⟩⟩
   refine⟨g,h1,h5,.inl ⟨jT,E,h2,h3,h4.turn fun p s hm =>?_⟩⟩;simp only[Box.lose,Own.lose,yw,zP,ne_eq]at hm;exact⟨hm.1,fun j hj ht=>⟨Ve j (fun e=>hm.2 (by rw[hj,e])) ht,rfl,fun _ _=>⟨rfl,fun _=>rfl⟩⟩⟩
  ·simp only[St.lose,qB]at hB;obtain⟨B0,Zh,rfl⟩:=hB;have:=hR.dis i B0 Zh;simp only[St.lose,this];cases Nat.beq i k<;>rfl
theorem y8e(hR:jW P base κ M σ a w){d:Nat}(Zs:σ.box d=none):jW P base κ M {σ with tok:=vH σ.tok d true} a w:=by
 have ht:∀i,σ.tok i=true→vH σ.tok d true i=true:=fun i h=>by
  by_cases hi:i=d
  ·subst hi;exact jy _ _ _
  ·rw[vN _ _ _ _ hi];exact h
 refine⟨fun s v hs =>?_,fun b B hB =>?_,hR.good,hR.inj,hR.kap,fun i B hB =>?_,hR.low⟩
 ·exact(hR.env s v hs).turn (Mem.le_refl M) (fun _ _=>rfl) (fun i _ h=>⟨ht i h,rfl,fun _ _=>⟨rfl,fun _=>rfl⟩⟩) (fun i B _ hB=>⟨B,hB,Alike.refl B⟩)
 ·exact(hR.bx b B hB).turn (Mem.le_refl M) ⟨rfl,fun _ _=>⟨rfl,fun _=>rfl⟩⟩ (fun _ k _ h=>⟨ht k h,rfl,fun _ _=>⟨rfl,fun _=>rfl⟩⟩)
 ·have:i≠d:=fun e=>by rw[e,Zs]at hB;cases hB
  simp only[vN _ _ _ _ this];exact hR.dis i B hB
theorem Lr(hR:jW P base κ M σ a w){b g:Nat}{B B':Box}{d:Option Nat}(hB:σ.box b=some B)(hk:κ b=some g)(Yu:Alike B B')(u:Value)
  (Ga:∀k,k≠g→w'.heap[k]?=w.heap[k]?) (DD:w'.heap.size=w.heap.size) (lu:w'.os=w.os∧w'.tape=w.tape∧w'.output=w.output) (pX:Good M w')
  (Zf:(∀i,σ.tok i=true→σ.tok i=true∧Holds κ M w κ M w' i)→RelB P κ M w' σ.tok b B') (N8:∀o,w.heap[g]?=some o→cv o=false):
  jW P base κ M {(σ.unset d)with box:=vH σ.box b (some B'),dirty:=vH σ.dirty b true} (a.put d u) w'∧
   Fr base d.toList κ M σ a w κ M {(σ.unset d)with box:=vH σ.box b (some B'),dirty:=vH σ.dirty b true} (a.put d u) w':=by
 have aw:=hR.kap b g hk;have hh:∀i,i≠b→Holds κ M w κ M w' i:=fun i hi=>⟨rfl,fun k wb=>by
  have:k≠g:=fun e=>hi (hR.inj i b g (e▸wb) hk)
  exact⟨Ga k this,fun _=>rfl⟩⟩
 have A7:=hR.dis b B hB;have Yd:∀i,σ.tok i=true→σ.tok i=true∧Holds κ M w κ M w' i:=fun i ht=>⟨ht,hh i fun e=>by rw[e,A7]at ht;cases ht⟩
 have Gl:∀i Bi,σ.box i=some Bi→∃B2,vH σ.box b (some B') i=some B2∧Alike Bi B2:=fun i Bi Z6=>by
  by_cases hi:i=b
  ·subst hi;rw[hB]at Z6;simp only[qb]at Z6;subst Z6;exact⟨B',jy _ _ _,Yu⟩
  ·exact⟨Bi,by rw[vN _ _ _ _ hi];exact Z6,Alike.refl Bi⟩
 constructor
 ·refine⟨fun s v hs =>?_,fun i Bi Z6 =>?_,pX,hR.inj,fun i k Qa =>?_,fun i Bi Z6 =>?_,?_⟩
  ·by_cases WR:d=some s
   ·subst WR;simp[St.unset,jy]at hs
   ·rw[Eg _ _ _ _ WR];simp only[uu _ _ _ WR]at hs;simp only[C1];exact(hR.env s v hs).turn (Mem.le_refl M) (fun _ _=>rfl) (fun i _ ht=>Yd i ht) (fun i B _ hB=>Gl i B hB)
  ·simp only[C1];by_cases hi:i=b
   ·subst hi;simp only[jy,qb]at Z6;subst Z6;exact Zf Yd
   ·simp only[vN _ _ _ _ hi]at Z6;exact(hR.bx i Bi Z6).turn (Mem.le_refl M) (hh i hi) (fun _ k _ ht=>Yd k ht)
  ·rw[DD];exact hR.kap i k Qa
  ·simp only[C1];by_cases hi:i=b
   ·subst hi;exact A7
   ·simp only[vN _ _ _ _ hi]at Z6;exact hR.dis i Bi Z6
  ·rw[DD];exact hR.low
 ·refine⟨⟨lu.1,lu.2.1,lu.2.2,by rw[DD];exact ql _,fun k wb=>Ga k (by omega)⟩,Mem.le_refl M,fun _ _=>rfl,KZ _ _ _,.of_eq (put_defers _ _ _),fun s hs=>Eg _ _ _ _ (fun e=>hs (by simp[e])),fun i _ hd =>?_,fun i _ Bi Z6 =>?_,fun j o hj ho=>(Ga j (fun e=>by subst e;rw[N8 o hj]at ho;cases ho)).trans hj,.of (fun j hj hn=>Ga j fun e=>hn b (by rw[e];exact hk)) (fun i j h =>.inl ⟨i,h⟩) fun _ _ _=>rfl⟩;rotate_left
  ·refine⟨rfl,?_⟩;by_cases hi:i=b
   ·subst hi;simp only[jy,qb]at Z6;subst Z6;exact⟨B,hB,Yu⟩
   ·simp only[vN _ _ _ _ hi]at Z6;exact⟨Bi,Z6,Alike.refl Bi⟩
  by_cases hi:i=b
  ·subst hi;simp only[jy]at hd;cases hd
  ·simp only[vN _ _ _ _ hi]at hd;exact⟨hd,hh i hi⟩
theorem y8f(hR:jW P base κ M σ a w){b g:Nat}{B B':Box}{jT Xt:Array Value}{E:TypeId}{d:Option Nat}(hB:σ.box b=some B)(hk:κ b=some g)(hc:w.heap[g]?=some (.cells jT E (0,0)))
  (Zf:EI P B'.rows B'.t M B'.x Xt.toList) (ho:z93 κ M w σ.tok B'.t Xt.toList B'.own) (Yu:Alike B B') (VN:Xt.size=jT.size) (u:Value):
  jW P base κ M {(σ.unset d)with box:=vH σ.box b (some B'),dirty:=vH σ.dirty b true} (a.put d u) (w.setRow g Xt)∧
   Fr base d.toList κ M σ a w κ M {(σ.unset d)with box:=vH σ.box b (some B'),dirty:=vH σ.dirty b true} (a.put d u) (w.setRow g Xt):=by
 have eZ:∀o,M g o=none:=by
  obtain⟨g',h1,h5,_⟩:=hR.bx b B hB;rw[hk]at h1;simp only[qb]at h1;subst h1;exact h5
 have Qf:=setRow_heap w g jT Xt E (0,0) hc;refine Lr hR hB hk Yu u (fun k ju=>setRow_other w g k _ ju) (by simp[World.setRow]) ⟨rfl,rfl,rfl⟩ ?_ (fun Yd =>.mk hk Qf Zf (ho.turn fun p s hm=>⟨hm,fun k _ ht=>Yd k ht⟩) eZ) (fun o ho=>by rw[hc]at ho;cases ho;rfl);refine Av hR.good (g:=g) (fun j hj _=>setRow_other w g j _ hj) (fun _ _=>rfl) (fun o v h =>?_) (Mem.le_refl M) (fun c t fr h=>by
  rw[hc]at h;obtain⟨rfl,rfl,rfl⟩:jT=c∧E=t∧_=fr:=by simpa using h
  exact⟨_,_,Qf,VN⟩)
 rw[eZ o]at h;cases h
theorem y5z(hR:jW P base κ M σ a w){b g:Nat}{tid:TypeId}{k v:Ty}{l l':List (k.den×v.den)}{own:Own}{es Zx:Array MapEntry}{c c':Nat}{d:Option Nat}(hm:Mf.on=true)(hB:σ.box b=some ⟨tid,.mapT k v,l,own,true⟩)(hk:κ b=some g)(hc:w.heap[g]?=some (.map es c))
  (Zf:XB k v l' Zx) (u:Value):
  jW P base κ M {(σ.unset d)with box:=vH σ.box b (some ⟨tid,.mapT k v,l',[],true⟩),dirty:=vH σ.dirty b true} (a.put d u) (w.putObj g (.map Zx c'))∧
   Fr base d.toList κ M σ a w κ M {(σ.unset d)with box:=vH σ.box b (some ⟨tid,.mapT k v,l',[],true⟩),dirty:=vH σ.dirty b true} (a.put d u) (w.putObj g (.map Zx c')):=by
 have eZ:∀o,M g o=none:=by
  obtain⟨g',h1,h5,_⟩:=hR.bx b _ hB;rw[hk]at h1;simp only[qb]at h1;subst h1;exact h5
 have aw:=hR.kap b g hk;have Qf:(w.putObj g (.map Zx c')).heap[g]?=some (.map Zx c'):=by simp[World.putObj,aw.2]
 have Ga:∀k,k≠g→(w.putObj g (.map Zx c')).heap[k]?=w.heap[k]?:=fun k ju=>by simp only[World.putObj];exact yr (yL ju)
 refine Lr hR hB hk ⟨l',[],rfl,fun _=>rfl⟩ u Ga (by simp[World.putObj]) ⟨rfl,rfl,rfl⟩ ?_ (fun _=>⟨g,hk,eZ,.inr ⟨tid,k,v,l',Zx,c',rfl,Qf,Zf,hm⟩⟩) (fun o ho=>by rw[hc]at ho;cases ho;simp[cv,hm]);refine Av hR.good (g:=g) (fun j hj _=>Ga j hj) (fun _ _=>rfl) (fun o v h =>?_) (Mem.le_refl M) (fun c t fr h=>by rw[hc]at h;cases h);rw[eZ o]at h;cases h
theorem mR{e:Ty}{v:Value}{d:Nat}{tk:Nat→Bool}(hv:v.cells.toList=[v])(h:OwnV κ M w tk e.size (some d) v):z93 κ M w tk (.slice e) v.cells.toList [([],some d)]:=by
 intro p s hm;simp only[qE,qX]at hm;obtain⟨rfl,rfl⟩:=hm;exact⟨0,e,v,by simp[jN],by rw[Ty.atP],by rw[hv];rfl,h⟩
theorem yek(hC:Qw P Γ)(hR:jW P base κ M σ a w){o:Oper}(hd:∀d,o.dst=some d→d<a.tmps.size)(h:ZI Γ o σ=some σ'){F:Fence}(hF:Open F){n:Nat}{K:Act→World→Prop}{Q:Exit→Act→World→Prop}
  (hK:∀κ' M' a' w',jW P base κ' M' σ' a' w'→Fr base o.dst.toList κ M σ a w κ' M' σ' a' w'→K a' w'):o.wpIn F n P a w K Q:=by
 have hE:=dm hR hC o;have NR:o.semAt F.round a.eval=execOp a.eval o:=jo _ _ _ fun c hc=>by
  simp only[ZI,jK,hc,Eff.runK]at h;cases h
 refine⟨fun f _=>hF.fn f,?_⟩;rw[NR];have Xp:∀i,κ i=some w.heap.size→False:=fun i hi=>xi _ (hR.kap i _ hi).2
 unfold ZI at h;cases he:jK Γ o σ with
 |fail=>rw[he]at h;cases h
 |val v=>
  rw[he]at h hE;simp only[Eff.runK,qb]at h;subst h;obtain⟨u,jF,hv⟩:=hE;rw[jF,yI];exact hK κ M _ w (CN hR hd hv) bb
 |chk c v=>
  rw[he]at h hE;cases c with
  |false=>simp[Eff.runK,Lift.chk]at h
  |true=>
   simp only[Eff.runK,Lift.chk,qv,qb]at h;subst h;obtain⟨u,jF,hv⟩:=hE rfl;rw[jF,yI];exact hK κ M _ w (CN hR hd hv) bb
 |cat x y=>
  rw[he]at h hE;simp only[Eff.runK,Lift.cat]at h;split at h
  ·rename_i hs;simp only[qh,qb]at h;subst h;rw[hE hs,yI];exact hK κ M _ w (CN hR hd mr) bb
  ·cases h
 |bytes x=>
  rw[he]at h hE;simp only[Eff.runK,qb]at h;subst h;obtain⟨v,w',jF,hb,M',hg,hm,hv⟩:=hE;rw[jF,yI];obtain⟨_,_,j4⟩:=Ee hR hb hg hm;exact hK κ M' _ w' (CN j4 hd (HN hv)) ((CM hR hb hm hg).trans bb (by simp) (fun s hs=>hs))
 |call s x=>
  rw[he]at h hE;simp only[Eff.runK]at h;obtain⟨r,hr,h⟩:=qi.1 h;simp only[qb]at h;subst h;obtain⟨vs,jF,vk,hFC⟩:=hE;rw[jF,xY];have hc:=hFC x r hr M w vs.toList hR.good vk;simp only[yl]at hc;refine⟨fun hx=>(by rw[hF.depth]at hx;cases hx),hF.calls (yT hc fun e w' hx =>?_)⟩;obtain⟨M',v,rfl,hv,hg,jZ⟩:=hx;obtain⟨_,_,j4⟩:=Ee hR jZ.below hg jZ.mem;exact hK κ M' _ w' (CN j4 hd (ybq hv _ _)) ((CM hR jZ.below jZ.mem hg).trans bb (by simp) (fun s hs=>hs))
 |dyn ta tr φ x=>
  rw[he]at h hE;simp only[Eff.runK]at h;obtain⟨r,hr,h⟩:=qi.1 h;simp only[qb]at h;subst h;obtain⟨g,args,jF,hc⟩:=hE r hr;rw[jF,xY];refine⟨fun hx=>(by rw[hF.depth]at hx;cases hx),hF.calls (yT hc fun e w' hx =>?_)⟩;obtain⟨M',v,rfl,hv,hg,jZ⟩:=hx;obtain⟨_,_,j4⟩:=Ee hR jZ.below hg jZ.mem;exact hK κ M' _ w' (CN j4 hd (HN hv)) ((CM hR jZ.below jZ.mem hg).trans bb (by simp) (fun s hs=>hs))
 |newRow tid e y=>
  rw[he]at h hE;simp only[Eff.runK]at h;split at h
  ·rename_i d wz;split at h
   ·rename_i Zs VL;obtain⟨l,hl,h⟩:=qi.1 h;simp only[qb]at h;subst h;obtain⟨g,args,jF,hc⟩:=hE l hl;rw[jF,xY,wz];refine⟨fun hx=>(by rw[hF.depth]at hx;cases hx),hF.calls (yT hc fun e' w' hx =>?_)⟩;obtain⟨M',b,cap,jT,E,rfl,hg,jZ,aE,Fm,vX,Ys,ZS,_⟩:=hx;obtain⟨jL,_,j4⟩:=Ee hR jZ.below hg jZ.mem;have Qz:∀i,κ i=some b→False:=fun i hi=>by have:=(hR.kap i b hi).2;omega
    have WQ:=CM hR jZ.below jZ.mem hg;have YH:base≤b:=ze hR.low aE;have Zh:Below 0 w' w':=qN _ _;have wZ:∀j,j≠b→j<w'.heap.size→w'.heap[j]?=w'.heap[j]?:=fun _ _ _=>rfl
    refine hK (Vn κ d b) M' _ _ (Ay j4 (hd d wz) Zs VL YH (qd.1 Fm).1 (ql _) (fun i hi=>(Qz i hi).elim) wZ (fun _ _=>rfl) hg (Mem.le_refl M') (fun i hi=>vN _ _ _ _ hi) (fun _ _=>rfl) (fun _ _=>VL) ?_ ?_)
     (by
      rw[wz];refine Al hR YH (jZ.below.mono (zz _)) (fun i hi=>(Qz i hi).elim) (fun i B' hi vB=>⟨B',(by simpa only[vN _ _ _ _ hi]using vB),Alike.refl B'⟩) (fun j _ hj=>jZ.below.block j hj) (fun j _ hj=>jZ.mem j hj) jL ?_ (fun o h=>absurd (qd.1 h).1 (by omega)) (.inr aE);exact fun _ h=>h)
    ·exact⟨tid,e,l,[],b,cap,jy _ _ _,GJ _ _,ZS,rfl⟩
    ·intro B' vB;simp only[jy,qb]at vB;subst vB;exact .mk (GJ _ _) Fm vX WJ Ys
   ·cases h
  ·cases h
 |newOwn e y=>
  rw[he]at h hE;simp only[Eff.runK]at h;split at h
  ·rename_i d wz;split at h
   ·rename_i Zs VL;obtain⟨l,hl,h⟩:=qi.1 h;simp only[qb]at h;subst h;obtain⟨g,args,jF,hc⟩:=hE l hl;rw[jF,xY,wz];refine⟨fun hx=>(by rw[hF.depth]at hx;cases hx),hF.calls (yT hc fun e' w' hx =>?_)⟩;obtain⟨M',v,rfl,hg,jZ,hv,Za⟩:=hx;obtain⟨jL,_,j4⟩:=Ee hR jZ.below hg jZ.mem;have WQ:=CM hR jZ.below jZ.mem hg;rcases Za with rfl|⟨b,n',cap,rfl,aE,Yi⟩
    ·have rV:=CN (y8e j4 Zs) (d:=some d) (fun s hs=>by cases hs;exact hd d wz) (v :=.data (.slice e) l [([],some d)]) (u :=.slice none 0 0) ⟨hv,mR rfl ⟨jy _ _ _,.inl rfl⟩⟩;refine hK κ M' _ w' rV (WQ.trans (V:=[d]) ?_ (by simp) (by rw[wz];simp));refine⟨qN _ _,Mem.le_refl _,fun _ _=>rfl,KZ _ _ _,.of_eq (put_defers _ _ _),fun s hs=>Eg _ _ _ _ (fun e=>hs (by simp at e;simp[e])),fun i _ eH=>⟨eH,rfl,fun _ _=>⟨rfl,fun _=>rfl⟩⟩,fun i _ B' vB=>⟨rfl,B',vB,Alike.refl B'⟩,fun _ _ h _=>h,Same.refl⟩
    ·have Qz:∀i,κ i=some b→False:=fun i hi=>by have:=(hR.kap i b hi).2;omega
     have YH:base≤b:=ze hR.low aE;have Zh:Below 0 w' w':=qN _ _;have wZ:∀j,j≠b→j<w'.heap.size→w'.heap[j]?=w'.heap[j]?:=fun _ _ _=>rfl
     have Fm:=Yi;obtain⟨jT,E,Fm,_⟩:=Fm;refine hK (Vn κ d b) M' _ _ (Ay j4 (hd d wz) Zs VL YH (qd.1 Fm).1 (ql _) (fun i hi=>(Qz i hi).elim) wZ (fun _ _=>rfl) hg (Mem.le_refl M') (fun _ _=>rfl) (fun i hi=>vN _ _ _ _ hi) (fun B hB=>by rw[Zs]at hB;cases hB) ?_ (fun B hB=>by rw[Zs]at hB;cases hB))
      (by
       rw[wz];refine Al hR YH (jZ.below.mono (zz _)) (fun i hi=>(Qz i hi).elim) ?_ (fun j _ hj=>jZ.below.block j hj) (fun j _ hj=>jZ.mem j hj) jL ?_ (fun o h=>absurd (qd.1 h).1 (by omega)) (.inr aE)
       ·exact fun i B' _ vB=>⟨B',vB,Alike.refl B'⟩
       exact fun _ h=>h)
     exact⟨hv,mR rfl ⟨jy _ _ _,.inr ⟨b,n',cap,GJ _ _,rfl,Yi⟩⟩⟩
   ·cases h
  ·cases h
 |newIter e F x=>
  rw[he]at h hE;simp only[Eff.runK]at h;split at h
  ·rename_i d wz;split at h
   ·rename_i Zs VL;simp only[qb]at h;subst h;obtain⟨g,args,jF,hc⟩:=hE;rw[jF,xY,wz];refine⟨fun hx=>(by rw[hF.depth]at hx;cases hx),hF.calls (yT hc fun e' w' hx =>?_)⟩;obtain⟨M',b,E,gf,lb,rfl,hg,jZ,aE,Fm,Ys,hit⟩:=hx;obtain⟨jL,_,j4⟩:=Ee hR jZ.below hg jZ.mem;have Qz:∀i,κ i=some b→False:=fun i hi=>by have:=(hR.kap i b hi).2;omega
    have WQ:=CM hR jZ.below jZ.mem hg;have YH:base≤b:=ze hR.low aE;have Zh:Below 0 w' w':=qN _ _;have wZ:∀j,j≠b→j<w'.heap.size→w'.heap[j]?=w'.heap[j]?:=fun _ _ _=>rfl
    refine hK (Vn κ d b) M' _ _ (Ay j4 (hd d wz) Zs VL YH (qd.1 Fm).1 (ql _) (fun i hi=>(Qz i hi).elim) wZ (fun _ _=>rfl) hg (Mem.le_refl M') (fun i hi=>vN _ _ _ _ hi) (fun _ _=>rfl) (fun _ _=>VL) ?_ ?_)
     (by
      rw[wz];refine Al hR YH (jZ.below.mono (zz _)) (fun i hi=>(Qz i hi).elim) (fun i B' hi vB=>⟨B',(by simpa only[vN _ _ _ _ hi]using vB),Alike.refl B'⟩) (fun j _ hj=>jZ.below.block j hj) (fun j _ hj=>jZ.mem j hj) jL ?_ (fun o h=>absurd (qd.1 h).1 (by omega)) (.inr aE);exact fun _ h=>h)
    ·exact⟨0,x,[],b,gf,lb,jy _ _ _,GJ _ _,rfl,hit⟩
    ·intro B' vB;simp only[jy,qb]at vB;subst vB;exact .mk (GJ _ _) Fm rfl WJ Ys
   ·cases h
  ·cases h
 |alloc B=>
  rw[he]at h hE;simp only[Eff.runK]at h;split at h
  ·rename_i d wz;split at h
   ·rename_i Zs VL;simp only[qb]at h;subst h;rcases hE with⟨cells,jF,Zf,ho,FO⟩|⟨tid,kt,vt,rfl,Et,jF⟩
    rotate_left
    ·rw[jF,yI,wz];have aq:=ja w (.map #[] 0);have wZ:∀j,j≠w.heap.size→j<w.heap.size→(w.alloc (.map #[] 0)).heap[j]?=w.heap[j]?:=fun j _ hj=>WL w _ j hj
     have hg:=Av (M':=M) hR.good wZ (fun _ _=>rfl) (fun o v h=>by rw[Af hR.good]at h;cases h) (Mem.le_refl M) mw;have Zh:Below 0 w (w.alloc (.map #[] 0)):=⟨rfl,rfl,rfl,by simp,fun k hk=>absurd hk (zW _)⟩
     refine hK (Vn κ d w.heap.size) M _ _ (Ay hR (hd d wz) Zs VL hR.low (by simp) Zh.size (fun i hi=>(Xp i hi).elim) wZ (fun _ _=>rfl) hg (Mem.le_refl M) (fun i hi=>vN _ _ _ _ hi) (fun _ _=>rfl) (fun _ _=>VL) ?_ ?_)
      (by
       rw[wz];refine Al hR hR.low Zh (fun i hi=>(Xp i hi).elim) (fun i B' hi vB=>⟨B',(by simpa only[vN _ _ _ _ hi]using vB),Alike.refl B'⟩) wZ (fun _ _ _=>rfl) (Mem.le_refl M) ?_ (fun o h=>by simp at h) (.inr (ql _));exact fun _ h=>h)
     ·exact⟨tid,kt,vt,[],[],w.heap.size,jy _ _ _,GJ _ _,rfl⟩
     ·intro B' vB;simp only[jy,qb]at vB;subst vB;exact⟨w.heap.size,GJ _ _,fun o=>Af hR.good o,.inr ⟨tid,kt,vt,[],#[],0,rfl,aq,rfl,Et⟩⟩
    rw[jF,yI,wz];have aq:=ja w (.cells cells B.tid);have wZ:∀j,j≠w.heap.size→j<w.heap.size→(w.alloc (.cells cells B.tid)).heap[j]?=w.heap[j]?:=fun j _ hj=>WL w _ j hj
    have hg:=Av (M':=M) hR.good wZ (fun _ _=>rfl) (fun o v h=>by rw[Af hR.good]at h;cases h) (Mem.le_refl M) mw;have Zh:Below 0 w (w.alloc (.cells cells B.tid)):=⟨rfl,rfl,rfl,by simp,fun k hk=>absurd hk (zW _)⟩
    refine hK (Vn κ d w.heap.size) M _ _ (Ay hR (hd d wz) Zs VL hR.low (by simp) Zh.size (fun i hi=>(Xp i hi).elim) wZ (fun _ _=>rfl) hg (Mem.le_refl M) (fun i hi=>vN _ _ _ _ hi) (fun _ _=>rfl) (fun _ _=>VL) ?_ ?_)
     (by
      rw[wz];refine Al hR hR.low Zh (fun i hi=>(Xp i hi).elim) (fun i B' hi vB=>⟨B',(by simpa only[vN _ _ _ _ hi]using vB),Alike.refl B'⟩) wZ (fun _ _ _=>rfl) (Mem.le_refl M) ?_ (fun o h=>by simp at h) (.inr (ql _));exact fun _ h=>h)
    ·rw[show B.ptr d = .bptr d [] from by simp[Box.ptr,FO]];refine⟨B,w.heap.size,0,jy _ _ _,GJ _ _,?_,rfl⟩;obtain⟨tid,t,x,own,rows⟩:=B;simp only at FO;subst FO;cases t<;>simp[vo,jN]
    ·intro B' vB;simp only[jy,qb]at vB;subst vB;refine .mk (GJ _ _) aq Zf (ho.turn fun p s hm=>⟨hm,fun k hk ht=>⟨ht,?_⟩⟩) (fun o=>Af hR.good o);have Wo:k≠d:=fun e=>by rw[e,VL]at ht;cases ht
     exact⟨iu Wo (fun e=>Xp k e),fun g YU=>⟨WL w _ g (hR.kap k g YU).2,fun _=>rfl⟩⟩
   ·cases h
  ·cases h
 |store b B'=>
  rw[he]at h hE;simp only[Eff.runK,qb]at h;subst h;rcases hE with⟨B,g,jT,Xt,E,hB,hk,hc,jF,Zf,ho,_,Yu,vQ⟩|⟨tid,kt,vt,l,l',own,g,es,Zx,c,c',hm,hB,rfl,hk,hc,jF,Zf⟩
  rotate_left
  ·rw[jF,Oper.uponIn_skip];obtain⟨h1,h2⟩:=y5z hR (d:=o.dst) (c':=c') hm hB hk hc Zf undef;exact hK κ M _ _ h1 h2
  rw[jF,Oper.uponIn_skip];obtain⟨h1,h2⟩:=y8f hR (d:=o.dst) hB hk hc Zf ho Yu vQ undef;exact hK κ M _ _ h1 h2
 |fresh c e l=>
  rw[he]at h hE;simp only[Eff.runK]at h;split at h
  ·rename_i d wz;split at h
   ·rename_i Zs VL;cases c with
    |false=>simp[Lift.chk]at h
    |true=>
     simp only[Lift.chk,qv,qb]at h;subst h;obtain⟨cells,E,jF,vX,px⟩:=hE rfl;rw[jF,yI,wz];have aq:=ja w (.cells cells E);have wZ:∀j,j≠w.heap.size→j<w.heap.size→(w.alloc (.cells cells E)).heap[j]?=w.heap[j]?:=fun j _ hj=>WL w _ j hj
     let M':Mem:=fun b o=>if b=w.heap.size then cells.toList[o]? else M b o
     have ju:∀j,j≠w.heap.size→M' j=M j:=fun j hj=>by funext o;exact qT hj
     have X6:∀o,M' w.heap.size o=cells.toList[o]?:=fun o=>qH rfl
     have jL:Mem.le M M':=by
      intro b o v hv;by_cases hb:b=w.heap.size
      ·subst hb;rw[Af hR.good]at hv;cases hv
      ·rw[ju b hb];exact hv
     have hg:=Av (M':=M') hR.good wZ ju (fun o v h=>by rw[X6]at h;rw[GN aq];simpa using h) jL mw;have Zh:Below 0 w (w.alloc (.cells cells E)):=⟨rfl,rfl,rfl,by simp,fun k hk=>absurd hk (zW _)⟩
     have jH:=vX.1;refine hK (Vn κ d w.heap.size) M' _ _ (Ay hR (hd d wz) Zs VL hR.low (by simp) Zh.size (fun i hi=>(Xp i hi).elim) wZ ju hg jL (fun _ _=>rfl) (fun i hi=>vN _ _ _ _ hi) (fun B hB=>by rw[Zs]at hB;cases hB) ?_ (fun B hB=>by rw[Zs]at hB;cases hB))
      (by
       rw[wz];refine Al hR hR.low Zh (fun i hi=>(Xp i hi).elim) ?_ wZ (fun j hj _=>ju j hj) jL ?_ (fun o h=>by simp at h) (.inr (ql _))
       ·exact fun i B' _ vB=>⟨B',vB,Alike.refl B'⟩
       exact fun _ h=>h)
     refine⟨ui (ql _) (fun j u hj=>by rw[qY,X6];exact hj) (Rk jL vX),mR rfl ⟨jy _ _ _,.inr ⟨w.heap.size,l.length,l.length,GJ _ _,rfl,cells,E,aq,by simpa using jH,ql _,px,fun o ho =>?_⟩⟩⟩;rw[X6,zD (by omega)]
   ·cases h
  ·cases h
 |row c tid e l=>
  rw[he]at h hE;simp only[Eff.runK]at h;split at h
  ·rename_i d wz;split at h
   ·rename_i Zs VL;cases c with
    |false=>simp[Lift.chk]at h
    |true=>
     simp only[Lift.chk,qv,qb]at h;subst h;obtain⟨cells,E,jF,vX,px⟩:=hE rfl;rw[jF,yI,wz];have aq:=ja w (.cells cells E);have wZ:∀j,j≠w.heap.size→j<w.heap.size→(w.alloc (.cells cells E)).heap[j]?=w.heap[j]?:=fun j _ hj=>WL w _ j hj
     have hg:=Av (M':=M) hR.good wZ (fun _ _=>rfl) (fun o v h=>by rw[Af hR.good]at h;cases h) (Mem.le_refl M) mw;have Zh:Below 0 w (w.alloc (.cells cells E)):=⟨rfl,rfl,rfl,by simp,fun k hk=>absurd hk (zW _)⟩
     refine hK (Vn κ d w.heap.size) M _ _ (Ay hR (hd d wz) Zs VL hR.low (by simp) Zh.size (fun i hi=>(Xp i hi).elim) wZ (fun _ _=>rfl) hg (Mem.le_refl M) (fun i hi=>vN _ _ _ _ hi) (fun _ _=>rfl) (fun _ _=>VL) ?_ ?_)
      (by
      rw[wz];refine Al hR hR.low Zh (fun i hi=>(Xp i hi).elim) (fun i B' hi vB=>⟨B',(by simpa only[vN _ _ _ _ hi]using vB),Alike.refl B'⟩) wZ (fun _ _ _=>rfl) (Mem.le_refl M) ?_ (fun o h=>by simp at h) (.inr (ql _));exact fun _ h=>h)
     ·exact⟨tid,e,l,[],w.heap.size,l.length,jy _ _ _,GJ _ _,ql _,rfl⟩
     ·intro B' vB;simp only[jy,qb]at vB;subst vB;exact .mk (GJ _ _) aq (y1t vX) WJ (fun o=>Af hR.good o)
   ·cases h
  ·cases h
 |app e l m src=>
  rw[he]at h hE;simp only[Eff.runK]at h;split at h
  ·rename_i d wz;split at h
   ·rename_i Zs VL;simp only[Lift.app]at h;split at h
    ·rename_i jH;simp only[qh,qb]at h;obtain⟨v,w',M',jF,hg,jL,hv,Zh,Za⟩:=hE jH;rw[jF,yI,wz];have hRl:=ybp hR src;have BJ:∀i,(σ.lose src).dirty i=false→σ.dirty i=false:=fun i hi=>by
      cases src with
      |none=>exact hi
      |some k=>
       by_cases Qa:i=k
       ·subst Qa;simp only[St.lose,jy]at hi;cases hi
       ·simpa only[St.lose,vN _ _ _ _ Qa]using hi
     have pK:∀i B',(σ.lose src).box i=some B'→∃B,σ.box i=some B∧Alike B B':=fun i B' vB=>by
      cases src with
      |none=>exact⟨B',vB,Alike.refl B'⟩
      |some k=>
       simp only[St.lose,qB]at vB;obtain⟨B,hB,rfl⟩:=vB;exact⟨B,hB,B.x,_,rfl,fun _=>rfl⟩
     rcases Za with⟨rfl,rfl,rfl⟩|⟨g,n',cap,rfl,Yi,Kr,wZ,ju⟩
     ·have hRt:=y8e hRl Zs;have rV:=CN hRt (d:=some d) (fun s hs=>by cases hs;exact hd d wz) (v :=.data (.slice e) (l++m) [([],some d)]) (u :=.slice none 0 0) ⟨hv,mR rfl ⟨jy _ _ _,.inl rfl⟩⟩;subst h;refine hK κ M' _ w' rV ?_;rw[wz];refine⟨qN _ _,Mem.le_refl _,fun _ _=>rfl,KZ _ _ _,.of_eq (put_defers _ _ _),fun s hs=>Eg _ _ _ _ (fun e=>hs (by simp at e;simp[e])),fun i _ eH=>⟨BJ i eH,rfl,fun _ _=>⟨rfl,fun _=>rfl⟩⟩,fun i _ B' vB=>⟨rfl,pK i B' vB⟩,fun _ _ h _=>h,Same.refl⟩
     ·have aw:base≤g∧g<w'.heap.size∧(∀i,κ i=some g→(σ.lose src).tok i=false∧(σ.lose src).box i=none∧(σ.lose src).dirty i=true):=by
       rcases Kr with rfl|⟨k,rfl,hk,Ve,_⟩
       ·refine⟨hR.low,?_,fun i hi=>(Xp i hi).elim⟩;obtain⟨jT,E,h1,_⟩:=Yi;exact(qd.1 h1).1
       ·refine⟨(hR.kap k g hk).1,?_,fun i hi =>?_⟩
        ·obtain⟨jT,E,h1,_⟩:=Yi;exact(qd.1 h1).1
        ·have Qa:=hR.inj i k g hi hk;subst Qa;refine⟨by simp[St.lose],?_,by simp[St.lose,jy]⟩;cases hbi:σ.box i with
         |none=>simp[St.lose,hbi]
         |some B=>rw[hR.dis i B hbi]at Ve;cases Ve
      obtain⟨Yg,wE,QS⟩:=aw;subst h;refine hK (Vn κ d g) M' _ w' (Ay hRl (hd d wz) Zs VL Yg wE Zh.size (fun i hi=>⟨(QS i hi).1,(QS i hi).2.1⟩) wZ ju hg jL (fun _ _=>rfl) (fun i hi=>vN _ _ _ _ hi) (fun B hB=>by rw[Zs]at hB;cases hB) ?_ (fun B hB=>by rw[Zs]at hB;cases hB))
       (by
        rw[wz];refine Al hR Yg Zh ?_ ?_ wZ (fun j hj _=>ju j hj) jL ?_ (by
         rcases Kr with rfl|⟨k,_,_,_,Ev⟩
         ·exact fun o h=>by simp at h
         ·exact Ev) (by
         rcases Kr with rfl|⟨k,_,hk,_,_⟩
         ·exact .inr (ql _)
         ·exact .inl ⟨k,hk⟩)
        ·exact fun i hi=>⟨(QS i hi).2.2,fun _=>(QS i hi).2.1⟩
        ·exact fun i B' _ vB=>pK i B' vB
        ·exact BJ)
      exact⟨hv,mR rfl ⟨jy _ _ _,.inr ⟨g,n',cap,GJ _ _,rfl,Yi⟩⟩⟩
    ·cases h
   ·cases h
  ·cases h
end Go.Lift
namespace Go.Lift
open Go Go.RowKit
variable {Γ:QW} {σ τ:St}
def Kf(τ σ:St)(x:Operand):Prop:=(τ.opd x=none∧∃s,x = .tmp s)∨σ.opd x=τ.opd x
theorem mQ(x:Operand)(h:∀s,x ≠ .tmp s):σ.opd x=τ.opd x:=by
 cases x with
 |tmp s=>exact absurd rfl (h s)
 |const v=>cases v<;>first|rfl|(rename_i a _ _;cases a<;>rfl)|(rename_i a;cases a<;>rfl)
 |global g=>rfl
 |func f=>rfl
theorem PJ{x:Operand}(h:∀s,x=Operand.tmp s→∀v,τ.env s=some v→σ.env s=some v):Kf τ σ x:=by
 cases x with
 |tmp s=>
  cases hv:τ.env s with
  |none=>exact .inl ⟨hv,s,rfl⟩
  |some v=>exact .inr ((h s rfl v hv).trans hv.symm)
 |const v=>exact .inr (mQ _ (fun s h=>by cases h))
 |global g=>exact .inr rfl
 |func f=>exact .inr rfl
structure Le (o:Oper) (τ σ:St):Prop where
 env:∀x∈o.op.operands.toList,Kf τ σ x
 ty:∀x∈o.op.operands.toList,∀t p,τ.opd x=some (.bptr t p)→∀B,τ.box t=some B→(σ.box t).map Box.t=some B.t
 bx:∀x∈o.op.operands.toList,∀t,((∃p,τ.opd x=some (.bptr t p))∨τ.opd x=some (.rowp t)∨τ.opd x=some (.mapp t))→jG o τ = .rd t∨jG o τ = .wr t→∀B,τ.box t=some B→σ.box t=some B
theorem WW{x:Operand}(h:Kf τ σ x)(t:Ty)(ju:AVal.get (τ.opd x) t≠none):AVal.get (σ.opd x) t=AVal.get (τ.opd x) t:=by
 rcases h with⟨h,_⟩|h
 ·rewrite [h]at ju;exact absurd rfl ju
 ·rw[h]
theorem dJ{x:Operand}(h:Kf τ σ x)(ju:AVal.int (τ.opd x)≠none):AVal.int (σ.opd x)=AVal.int (τ.opd x):=by
 rcases h with⟨h,_⟩|h
 ·rewrite [h]at ju;exact absurd rfl ju
 ·rw[h]
theorem LN{n:Nat}:∀(ps:List (Nat×Operand)) (t:Ty) (x:t.den) (o:Own),(∀p∈ps,Kf τ σ p.2)→D9 n τ ps t x o≠none→D9 n σ ps t x o=D9 n τ ps t x o
 |[],_,_,_,_,_=>rfl
 | (i,y)::rest,t,x,o,h,ju=>by
  have hy:=h (i,y) (by simp);simp only[D9]at ju⊢;rcases hy with⟨hy,_⟩|hy
  ·simp only at hy;rw[hy]at ju;split at ju<;>first|exact absurd rfl ju|simp_all
  ·simp only at hy;rw[hy];split
   ·split
    ·split
     ·rename_i u u' v ow hu hv _ v' ZC _ x' wn;rw[hu,hv]at ju;simp only[ZC,wn]at ju;exact LN rest t x' _ (fun p hp=>h p (qo _ hp)) ju
     ·rfl
    ·rfl
   ·rfl
theorem zox{e:Ty}:∀(ps:List (Nat×Operand)) (x:Nat→e.den),(∀p∈ps,Kf τ σ p.2)→Cg e τ ps x≠none→Cg e σ ps x=Cg e τ ps x
 |[],_,_,_=>rfl
 | (i,y)::rest,x,h,ju=>by
  have hy:=h (i,y) (by simp);simp only[Cg]at ju⊢;cases hg:AVal.get (τ.opd y) e with
  |none=>rewrite [hg]at ju;exact absurd rfl ju
  |some v=>
   rw[WW hy e (by rw[hg];simp),hg];rw[hg]at ju;exact zox rest _ (fun p hp=>h p (qo _ hp)) ju
theorem y94{T:Option Ty}{y:Operand}(h:Kf τ σ y):(τ.opdN T y=none∧∃s,y = .tmp s)∨σ.opdN T y=τ.opdN T y:=by
 rcases h with⟨h,s,rfl⟩|h
 ·exact .inl ⟨by unfold St.opdN;split<;>first|exact h|simp_all,s,rfl⟩
 ·right;unfold St.opdN;split
  ·rfl
  ·exact h
theorem yfj{x:Operand}(h:Kf τ σ x)(T:Option Ty)(t:Ty)(ju:AVal.get (τ.opdN T x) t≠none):AVal.get (σ.opdN T x) t=AVal.get (τ.opdN T x) t:=by
 rcases y94 (T:=T) h with⟨h,_⟩|h
 ·rw[h]at ju;exact absurd rfl ju
 ·rw[h]
theorem zk1{e:Ty}:∀(ps:List (Nat×Operand)) (i:Nat),(∀p∈ps,Kf τ σ p.2)→GP e τ i ps≠none→GP e σ i ps=GP e τ i ps
 |[],_,_,_=>rfl
 | (j,y)::rest,i,h,ju=>by
  have hy:=h (j,y) (by simp);simp only[GP]at ju⊢;split at ju
  ·rename_i X3;rw[qH X3,qH X3];cases hg:AVal.get (τ.opdN (some e) y) e with
   |none=>rewrite [hg]at ju;exact absurd rfl ju
   |some v=>
    rw[yfj hy (some e) e (by rw[hg];simp),hg];rw[hg]at ju;cases hr:GP e τ (i+1) rest with
    |none=>rewrite [hr]at ju;exact absurd rfl ju
    |some l=>rw[zk1 rest (i+1) (fun p hp=>h p (qo _ hp)) (by rw[hr];simp),hr]
  ·exact absurd rfl ju
theorem y0m:∀(xs:List Operand),(∀x∈xs,Kf τ σ x)→D5 τ xs≠none→D5 σ xs=D5 τ xs
 |[],_,_=>rfl
 | x::r,h,ju=>by
  have hx:=h x (by simp);simp only[D5]at ju⊢;rcases hx with⟨hx,_⟩|hx
  ·rewrite [hx]at ju;exact absurd rfl ju
  ·rw[hx];cases hr:D5 τ r with
   |none=>
    rw[hr]at ju;split at ju<;>first|exact absurd rfl ju|simp_all
   |some l=>rw[y0m r (fun y hy=>h y (qo _ hy)) (by rw[hr];simp),hr]
theorem Sl{x:Operand}(h:Kf τ σ x)(t:Ty)(ju:St.arg Γ τ x t≠none):St.arg Γ σ x t=St.arg Γ τ x t:=by
 unfold St.arg at ju⊢;cases t with
 |fn a r=>
  simp only at ju⊢;cases x with
  |func g=>rfl
  |const v=>cases v<;>first|rfl|(rename_i p n m;cases p<;>cases n<;>cases m<;>rfl)|(rename_i a;cases a<;>rfl)
  |global g=>rfl
  |tmp s=>
   simp only at ju⊢;rcases h with⟨h,_⟩|h
   ·rewrite [h]at ju;exact absurd rfl ju
   ·rw[h]
 |slice e=>
  simp only at ju⊢;cases x with
  |func g=>rfl
  |const v=>cases v<;>first|rfl|(rename_i p n m;cases p<;>cases n<;>cases m<;>rfl)|(rename_i a;cases a<;>rfl)
  |global g=>rfl
  |tmp s=>exact WW h _ ju
 |_=>exact WW h _ ju
theorem LL:∀(ts:List Ty) (xs:List Operand),(∀x∈xs,Kf τ σ x)→KF τ (St.arg Γ τ) ts xs≠none→KF σ (St.arg Γ σ) ts xs=KF τ (St.arg Γ τ) ts xs
 |[],[],_,_=>rfl
 |[t],[x],h,ju=>by
  simp only[KF]at ju⊢;exact Sl (h x (by simp)) t ju
 | t::u::r,x::xs,h,ju=>by
  simp only[KF]at ju⊢;cases hg:St.arg Γ τ x t with
  |none=>rewrite [hg]at ju;exact absurd rfl ju
  |some v=>
   rw[Sl (h x (by simp)) t (by rw[hg];simp),hg];rw[hg]at ju;cases hr:KF τ (St.arg Γ τ) (u::r) xs with
   |none=>rewrite [hr]at ju;exact absurd rfl ju
   |some w=>rw[LL (u::r) xs (fun y hy=>h y (qo _ hy)) (by rw[hr];simp),hr]
 |[],_::_,_,ju=>by simp[KF]at ju
 |[_],[],_,ju=>by simp[KF]at ju
 |[_],_::_::_,_,ju=>by simp[KF]at ju
 |_::_::_,[],_,ju=>by simp[KF]at ju
theorem IE(cs:List (Sigma Ty.den)):∀(ts:List Ty) (xs:List Operand),(∀x∈xs,Kf τ σ x)→YW τ (St.arg Γ τ) ts xs cs≠none→YW σ (St.arg Γ σ) ts xs cs=YW τ (St.arg Γ τ) ts xs cs
 | [t],[x],h,ju=>by
  cases cs with
  |nil=>
   simp only[YW]at ju⊢;exact Sl (h x (by simp)) t ju
  |cons c cs=>simp[YW]at ju
 | t::u::r,x::xs,h,ju=>by
  simp only[YW]at ju⊢;cases hg:St.arg Γ τ x t with
  |none=>rewrite [hg]at ju;exact absurd rfl ju
  |some v=>
   rw[Sl (h x (by simp)) t (by rw[hg];simp),hg];rw[hg]at ju;cases hr:YW τ (St.arg Γ τ) (u::r) xs cs with
   |none=>rewrite [hr]at ju;exact absurd rfl ju
   |some w=>rw[IE cs (u::r) xs (fun y hy=>h y (qo _ hy)) (by rw[hr];simp),hr]
 | ts,[],_,_=>by
  have key:∀(cs:List (Sigma Ty.den)) (ts:List Ty),YW σ (St.arg Γ σ) ts [] cs=YW τ (St.arg Γ τ) ts [] cs:=by
   intro cs;induction cs with
   |nil=>intro ts;match ts with
    |[]=>rfl
    |[_]=>rfl
    |_::_::_=>rfl
   |cons c cs ih=>intro ts;match ts with
    |[]=>rfl
    |[_]=>cases cs<;>rfl
    |t::u::r=>simp only[YW,ih (u::r)]
  exact key cs ts
 |[],_::_,_,ju=>by simp[YW]at ju
 |[_],_::_::_,_,ju=>by simp[YW]at ju
theorem y4e{x:Operand}(h:Kf τ σ x)(ju:EH (τ.opd x) ≠ .fail):EH (σ.opd x)=EH (τ.opd x):=by
 rcases h with⟨h,_⟩|h
 ·rewrite [h]at ju;exact absurd rfl ju
 ·rw[h]
theorem MR{b:Nat}(h:(σ.box b).map Box.t=(τ.box b).map Box.t){B:Box}(hB:τ.box b=some B):∃B',σ.box b=some B'∧B'.t=B.t:=by
 rw[hB]at h;simp only[zK,qB]at h;exact h
theorem Sn{o:Oper}(h:Le o τ σ)(ju:jK Γ o τ ≠ .fail):jK Γ o σ=jK Γ o τ:=by
 obtain⟨j8,hty,Zf⟩:=h;cases jx:o.op;case move x=>
  rw[jx]at j8;have hx:=j8 x (by simp[Op.operands]);simp only[jK,jx]at ju⊢;cases x with
  |tmp s=>exact y4e hx ju
  |const v=>cases v<;>first|rfl|(rename_i p n m;cases p<;>cases n<;>cases m<;>rfl)|(rename_i a;cases a<;>rfl)
  |_=>rfl
 case assign x=>
  rw[jx]at j8;have hx:=j8 x (by simp[Op.operands]);simp only[jK,jx]at ju⊢;cases x with
  |tmp s=>exact y4e hx ju
  |const v=>cases v<;>first|rfl|(rename_i p n m;cases p<;>cases n<;>cases m<;>rfl)|(rename_i a;cases a<;>rfl)
  |_=>rfl
 case pick c x y=>
  rw[jx]at j8;have hc:=j8 c (by simp[Op.operands]);have hx:=j8 x (by simp[Op.operands]);have hy:=j8 y (by simp[Op.operands]);simp only[jK,jx,St.bool]at ju⊢;cases hg:AVal.get (τ.opd c) .bool with
  |none=>rewrite [hg]at ju;exact absurd rfl ju
  |some g=>
   rw[WW hc _ (by rw[hg];simp),hg];rw[hg]at ju;cases g with
   |true=>
    simp only[yp]at ju⊢;cases hv:AVal.get (τ.opd x) .bool with
    |none=>rewrite [hv]at ju;exact absurd rfl ju
    |some v=>rw[WW hx _ (by rw[hv];simp),hv]
   |false=>
    simp only[qA,zp]at ju⊢;cases hv:AVal.get (τ.opd y) .bool with
    |none=>rewrite [hv]at ju;exact absurd rfl ju
    |some v=>rw[WW hy _ (by rw[hv];simp),hv]
 case alloc T=>simp only[jK,jx]
 case box T x=>
  rw[jx]at j8;have hx:=j8 x (by simp[Op.operands]);simp only[jK,jx]at ju⊢;rcases hx with⟨hx,_⟩|hx
  ·rw[hx]at ju;exact absurd (by(repeat' split)<;>first|rfl|simp_all) ju
  ·rw[hx]
 case build T ps=>
  rw[jx]at j8;have Zr:∀p∈ps.toList,Kf τ σ p.2:=fun p hp=>j8 p.2 (by simp only[Op.operands,List.toList_toArray,zG];exact⟨p,hp,rfl⟩)
  simp only[jK,jx]at ju⊢;split at ju
  ·rename_i n e ht;split at ju
   ·rename_i hc;rw[qH hc,qH hc];cases hv:Cg e τ ps.toList (fun _=>e.dflt)with
    |none=>rewrite [hv]at ju;exact absurd rfl ju
    |some x=>rw[zox ps.toList _ Zr (by rw[hv];simp),hv]
   ·exact absurd rfl ju
  ·rename_i u _ ht;split at ju
   ·rename_i hc;rw[qH hc,qH hc];cases hv:D9 (Γ.nf T) τ ps.toList u u.dflt (Ec u)with
    |none=>rewrite [hv]at ju;exact absurd rfl ju
    |some x=>rw[LN ps.toList u _ _ Zr (by rw[hv];simp),hv]
   ·exact absurd rfl ju
  ·exact absurd rfl ju
 case buildSlice T n ps=>
  rw[jx]at j8;have Zr:∀p∈ps.toList,Kf τ σ p.2:=fun p hp=>j8 p.2 (by simp only[Op.operands,List.toList_toArray,zG];exact⟨p,hp,rfl⟩)
  simp only[jK,jx]at ju⊢;split at ju
  ·rename_i e ht;split at ju
   ·rename_i hc;rw[qH hc,qH hc];cases hv:GP e τ 0 ps.toList with
    |none=>rewrite [hv]at ju;exact absurd rfl ju
    |some l=>rw[zk1 ps.toList 0 Zr (by rw[hv];simp),hv]
   ·exact absurd rfl ju
  ·exact absurd rfl ju
 case load T x=>
  rw[jx]at j8 Zf;have hx:=j8 x (by simp[Op.operands]);have hb:=Zf x (by simp[Op.operands]);simp only[jK,jx]at ju⊢;rcases hx with⟨hx,_⟩|hx
  ·rw[hx]at ju;exact absurd (by(repeat' split)<;>first|rfl|simp_all) ju
  ·rw [hx];cases hT:Γ.ty T with
   |none=>rfl
   |some u=>
    cases hv:τ.opd x with
    |none=>rfl
    |some v=>
     cases v with
     |bptr b p=>
      cases hB:τ.box b with
      |none=>rw[hT,hv]at ju;simp only[hB]at ju;exact absurd rfl ju
      |some B=>simp only[hb b (.inl ⟨p,hv⟩) (.inl (by simp only[jG,jx,hv])) B hB,hB]
     |data t v ow=>cases t<;>rfl
     |_=>rfl
 case store T x y=>
  rw[jx]at j8 Zf;have hx:=j8 x (by simp[Op.operands]);have hy:=y94 (T:=Γ.ty T) (j8 y (by simp[Op.operands]));have hb:=Zf x (by simp[Op.operands]);simp only[jK,jx]at ju⊢;rcases hx with⟨hx,_⟩|hx
  ·rw[hx]at ju;exact absurd (by(repeat' split)<;>first|rfl|simp_all) ju
  ·rw [hx];cases hT:Γ.ty T with
   |none=>rfl
   |some u=>
   rw[hT]at hy;cases hv:τ.opd x with
   |none=>rfl
   |some v=>
    cases v with
    |bptr b p=>
     rw[hv,hT]at ju;rcases hy with⟨hy,_⟩|hy
     ·rw[hy]at ju;exact absurd (by(repeat' split)<;>first|rfl|simp_all) ju
     ·rw[hy];cases G5:τ.opdN (some u) y with
      |none=>rfl
      |some v=>
       cases v with
       |data t v ow=>
        cases hB:τ.box b with
        |none=>rw[G5]at ju;simp only[hB]at ju;exact absurd rfl ju
        |some B=>simp only[hb b (.inl ⟨p,hv⟩) (.inr (by simp only[jG,jx,hv])) B hB,hB]
       |_=>rfl
    |_=>rfl
 case binOp op T x y U=>
  rw[jx]at j8;have hx:=j8 x (by simp[Op.operands]);have hy:=j8 y (by simp[Op.operands]);simp only[jK,jx]at ju⊢;rcases hx with⟨hx,_⟩|hx
  ·rewrite [hx]at ju;exact absurd rfl ju
  ·rw [hx];rcases hy with⟨hy,s,rfl⟩|hy
   ·rw [hy]at ju;cases hv:τ.opd x with
    |none=>rewrite [hv]at ju;exact absurd rfl ju
    |some v=>
     rw[hv]at ju;cases v with
     |data t v ow=>
      cases t;case err=>
       simp only at ju;split at ju<;>exact absurd rfl ju
      case slice=>
       simp only at ju;split at ju<;>exact absurd rfl ju
      all_goals exact absurd rfl ju
     |_=>exact absurd rfl ju
   ·rw[hy]
 case unOp op T x=>
  rw[jx]at j8;have hx:=j8 x (by simp[Op.operands]);cases op;case neg=>
   simp only[jK,jx]at ju⊢;rcases hx with⟨hx,_⟩|hx
   ·rewrite [hx]at ju;exact absurd rfl ju
   ·rw[hx]
  case not=>
   simp only[jK,jx,St.bool]at ju⊢;cases hg:AVal.get (τ.opd x) .bool with
   |none=>rewrite [hg]at ju;exact absurd rfl ju
   |some g=>rw[WW hx _ (by rw[hg];simp),hg]
  all_goals simp only[jK,jx]
 case convert S T x=>
  rw[jx]at j8;have hx:=j8 x (by simp[Op.operands]);simp only[jK,jx]at ju⊢;rcases hx with⟨hx,_⟩|hx
  ·rw[hx]at ju;revert ju
   generalize (if(Γ.ty S).isSome=true then Γ.ty T else none)=q;intro ju;cases q with
   |none=>exact absurd rfl ju
   |some q=>
    cases q;case slice e=>
     cases e;case int k=>cases k<;>exact absurd rfl ju
     all_goals exact absurd rfl ju
    all_goals exact absurd rfl ju
  ·rw[hx]
 case fieldAddr s x f=>
  rw[jx]at j8 hty;have hx:=j8 x (by simp[Op.operands]);have ht:=hty x (by simp[Op.operands]);simp only[jK,jx]at ju⊢;split at ju
  ·rename_i hf;rw[qH hf,qH hf];rcases hx with⟨hx,_⟩|hx
   ·rw[hx]at ju;exact absurd (by(repeat' split)<;>first|rfl|simp_all) ju
   ·rw [hx];cases hs:Γ.ty s with
    |none=>rfl
    |some t=>
     cases hv:τ.opd x with
     |none=>rfl
     |some v=>
      cases v with
      |bptr b p=>
       cases hB:τ.box b with
       |none=>rw[hs,hv]at ju;simp only[hB]at ju;exact absurd rfl ju
       |some B=>
        have aC:=ht b p hv B hB;obtain⟨B',h1,h2⟩:=MR (τ:=τ) (aC.trans (by rw[hB];rfl)) hB;simp only[h1,hB];cases t.atP (z12 (Γ.nf s) f)with
        |none=>rfl
        |some u=>simp only[h2]
      |data t' v ow=>cases t'<;>rfl
      |_=>rfl
  ·exact absurd rfl ju
 case field s x f=>
  rw[jx]at j8;have hx:=j8 x (by simp[Op.operands]);simp only[jK,jx]at ju⊢;split at ju
  ·rename_i hf;rw[qH hf,qH hf];rcases hx with⟨hx,_⟩|hx
   ·rw[hx]at ju;exact absurd (by(repeat' split)<;>first|rfl|simp_all) ju
   ·rw[hx]
  ·exact absurd rfl ju
 case indexAddr T x i=>
  rw[jx]at j8 Zf;have hx:=j8 x (by simp[Op.operands]);have hi:=j8 i (by simp[Op.operands]);have hb:=Zf x (by simp[Op.operands]);simp only[jK,jx]at ju⊢;cases hj:AVal.get (τ.opd i) (.int .i64)with
  |none=>rewrite [hj]at ju;exact absurd rfl ju
  |some j=>
   rw[WW hi _ (by rw[hj];simp),hj];rw[hj]at ju;simp only at ju⊢;rcases hx with⟨hx,_⟩|hx
   ·rw[hx]at ju;cases hT:Γ.ty T with
    |none=>rewrite [hT]at ju;exact absurd rfl ju
    |some t=>rw[hT]at ju;cases t<;>exact absurd rfl ju
   ·rw [hx];cases hT:Γ.ty T with
    |none=>rfl
    |some t=>
     cases hv:τ.opd x with
     |none=>cases t<;>rfl
     |some v=>
      cases v with
      |bptr b p=>
       cases hB:τ.box b with
       |none=>rw[hT,hv]at ju;cases t<;>first|rfl|(simp only[hB]at ju;exact absurd rfl ju)
       |some B=>
        have e1:=hb b (.inl ⟨p,hv⟩) (.inl (by simp only[jG,jx,hv])) B hB;cases t<;>first|rfl|simp only[e1,hB]
      |rowp b=>
       cases hB:τ.box b with
       |none=>rw[hT,hv]at ju;cases t<;>first|rfl|(simp only[hB]at ju;exact absurd rfl ju)
       |some B=>
        have e1:=hb b (.inr (.inl hv)) (.inl (by simp only[jG,jx,hv])) B hB;cases t<;>first|rfl|simp only[e1,hB]
      |data t' v ow=>
       cases t<;>cases t'<;>first|rfl|(rename_i t2;cases t2<;>rfl)
      |_=>cases t<;>rfl
 case makeMap T r=>cases r<;>simp only[jK,jx]
 case lookup T x i c=>
  rw[jx]at j8 Zf;have hx:=j8 x (by simp[Op.operands]);have hi:=j8 i (by simp[Op.operands]);have hb:=Zf x (by simp[Op.operands]);cases c with
  |true=>simp only[jK,jx]
  |false=>
   simp only[jK,jx]at ju⊢;rcases hx with⟨hx,_⟩|hx
   ·rewrite [hx]at ju;exact absurd rfl ju
   ·rw [hx];cases hv:τ.opd x with
    |none=>rfl
    |some v=>
     cases v with
     |mapp b=>
      rw[hv]at ju;cases hB:τ.box b with
      |none=>simp only[hB]at ju;exact absurd rfl ju
      |some B=>
       have e1:=hb b (.inr (.inr hv)) (.inl (by simp only[jG,jx,hv])) B hB;obtain⟨tid,t,l,own,rows⟩:=B;simp only[hB]at ju;simp only[e1,hB];cases t<;>cases rows<;>first|rfl|skip
       rename_i kt vt;simp only at ju⊢;split at ju
       ·rename_i hc;rw[qH hc,qH hc];cases hg:AVal.get (τ.opd i) kt with
        |none=>rewrite [hg]at ju;exact absurd rfl ju
        |some j=>rw[WW hi _ (by rw[hg];simp),hg]
       ·exact absurd rfl ju
     |_=>rfl
 case mapUpdate T x i y=>
  rw[jx]at j8 Zf;have hx:=j8 x (by simp[Op.operands]);have hi:=j8 i (by simp[Op.operands]);have hy:=j8 y (by simp[Op.operands]);have hb:=Zf x (by simp[Op.operands]);simp only[jK,jx]at ju⊢;rcases hx with⟨hx,_⟩|hx
  ·rewrite [hx]at ju;exact absurd rfl ju
  ·rw [hx];cases hv:τ.opd x with
   |none=>rfl
   |some v=>
    cases v with
    |mapp b=>
     rw[hv]at ju;cases hB:τ.box b with
     |none=>simp only[hB]at ju;exact absurd rfl ju
     |some B=>
      have e1:=hb b (.inr (.inr hv)) (.inr (by simp only[jG,jx,hv])) B hB;obtain⟨tid,t,l,own,rows⟩:=B;simp only[hB]at ju;simp only[e1,hB];cases t<;>cases rows<;>first|rfl|skip
      rename_i kt vt;simp only at ju⊢;split at ju
      ·rename_i hc;rw[qH hc,qH hc];cases hg:AVal.get (τ.opd i) kt with
       |none=>rewrite [hg]at ju;exact absurd rfl ju
       |some j=>
        rw[WW hi _ (by rw[hg];simp),hg];rw[hg]at ju;cases hz:AVal.get (τ.opd y) vt with
        |none=>rewrite [hz]at ju;exact absurd rfl ju
        |some z=>rw[WW hy _ (by rw[hz];simp),hz]
      ·exact absurd rfl ju
    |_=>rfl
 case index T x i=>
  rw[jx]at j8;have hx:=j8 x (by simp[Op.operands]);have hi:=j8 i (by simp[Op.operands]);simp only[jK,jx]at ju⊢;rcases hx with⟨hx,_⟩|hx
  ·rw[hx]at ju;cases hT:Γ.ty T with
   |none=>rewrite [hT]at ju;exact absurd rfl ju
   |some t=>rw[hT]at ju;cases t<;>exact absurd rfl ju
  ·rw [hx];cases hj:AVal.int (τ.opd i)with
   |none=>
    rw[hj]at ju;cases hT:Γ.ty T with
    |none=>rewrite [hT]at ju;exact absurd rfl ju
    |some t=>
     rw[hT]at ju;cases hv:τ.opd x with
     |none=>rw[hv]at ju;cases t<;>exact absurd rfl ju
     |some v=>
      rw[hv]at ju;cases t<;>cases v<;>first|exact absurd rfl ju|(rename_i t2 _ _;cases t2<;>exact absurd rfl ju)
   |some j=>rw[dJ hi (by rw[hj];simp),hj]
 case nilCheck x=>
  rw[jx]at j8;have hx:=j8 x (by simp[Op.operands]);simp only[jK,jx]at ju⊢;rcases hx with⟨hx,_⟩|hx
  ·rewrite [hx]at ju;exact absurd rfl ju
  ·rw[hx]
 case extract x i=>
  rw[jx]at j8;have hx:=j8 x (by simp[Op.operands]);simp only[jK,jx]at ju⊢;rcases hx with⟨hx,_⟩|hx
  ·rewrite [hx]at ju;exact absurd rfl ju
  ·rw[hx]
 case slice T x lo hi mx=>
  cases mx with
  |some m=>simp only[jK,jx]
  |none=>
   rw[jx]at j8;have hx:=j8 x (by simp[Op.operands]);have lz:∀y,lo=some y→Kf τ σ y:=fun y hy=>j8 y (by subst hy;simp[Op.operands])
   have au:∀y,hi=some y→Kf τ σ y:=fun y hy=>j8 y (by subst hy;simp[Op.operands])
   cases lo with
   |none=>
    cases hi with
    |none=>
     simp only[jK,jx]at ju⊢;rcases hx with⟨hx,_⟩|hx
     ·rw[hx]at ju;exact absurd (by(repeat' split)<;>first|rfl|simp_all) ju
     ·rw[hx]
    |some z=>
     have hz:=au z rfl;simp only[jK,jx]at ju⊢;rcases hx with⟨hx,_⟩|hx
     ·rw[hx]at ju;exact absurd (by(repeat' split)<;>first|rfl|simp_all) ju
     ·rw[hx];rcases hz with⟨hz,_⟩|hz
      ·rw[hz]at ju;exact absurd (by(repeat' split)<;>first|rfl|simp_all [AVal.get]) ju
      ·rw[hz]
   |some y=>
    have hy:=lz y rfl;cases hi with
    |none=>
     simp only[jK,jx]at ju⊢;rcases hy with⟨hy,_⟩|hy
     ·rw[hy]at ju;exact absurd (by(repeat' split)<;>first|rfl|simp_all [AVal.get]) ju
     ·rw[hy];rcases hx with⟨hx,_⟩|hx
      ·rw[hx]at ju;exact absurd (by(repeat' split)<;>first|rfl|simp_all) ju
      ·rw[hx]
    |some z=>
     have hz:=au z rfl;simp only[jK,jx]at ju⊢;rcases hy with⟨hy,_⟩|hy
     ·rw[hy]at ju;exact absurd (by(repeat' split)<;>first|rfl|simp_all [AVal.get]) ju
     ·rw[hy];rcases hx with⟨hx,_⟩|hx
      ·rw[hx]at ju;exact absurd (by(repeat' split)<;>first|rfl|simp_all) ju
      ·rw[hx];rcases hz with⟨hz,_⟩|hz
       ·rw[hz]at ju;exact absurd (by(repeat' split)<;>first|rfl|simp_all [AVal.get]) ju
       ·rw[hz]
 case makeSlice T n c=>
  rw[jx]at j8;have hn:=j8 n (by simp[Op.operands]);have hc:=j8 c (by simp[Op.operands]);simp only[jK,jx]at ju⊢;cases hj:AVal.get (τ.opd n) (.int .i64)with
  |none=>
   rw[hj]at ju;cases hT:Γ.ty T with
   |none=>rewrite [hT]at ju;exact absurd rfl ju
   |some t=>rw[hT]at ju;cases t<;>exact absurd rfl ju
  |some j=>
   rw[WW hn _ (by rw[hj];simp),hj];rw[hj]at ju;cases Y9:AVal.get (τ.opd c) (.int .i64)with
   |none=>
    rw[Y9]at ju;cases hT:Γ.ty T with
    |none=>rewrite [hT]at ju;exact absurd rfl ju
    |some t=>rw[hT]at ju;cases t<;>exact absurd rfl ju
   |some j'=>rw[WW hc _ (by rw[Y9];simp),Y9]
 case makeFunc fn fs caps=>
  rw[jx]at j8;cases fn with
  |func g=>
   have Kt:∀x∈caps.toList,Kf τ σ x:=fun x hx=>j8 x (by simp[Op.operands];right;simpa using hx)
   simp only[jK,jx]at ju⊢;split at ju
   ·rename_i hc;rw[qH hc,qH hc];cases hv:D5 τ caps.toList with
    |none=>rewrite [hv]at ju;exact absurd rfl ju
    |some l=>rw[y0m caps.toList Kt (by rw[hv];simp),hv]
   ·exact absurd rfl ju
  |_=>simp only[jK,jx]
 case call c=>
  rw[jx]at j8;have vk:∀x∈c.args.toList,Kf τ σ x:=fun x hx=>j8 x (by
   simp only[Op.operands,Call.operands];cases c.callee<;>simp<;>first|exact .inr (by simpa using hx)|simpa using hx)
  cases jI:c.callee with
  |value x=>
   have hxo:Kf τ σ x:=j8 x (by simp[Op.operands,Call.operands,jI]);simp only[jK,jx,jI]at ju⊢;cases x with
   |func f=>
    simp only at ju⊢;cases hI:Γ.iters f with
    |some I=>
     rw[hI]at ju;simp only at ju⊢;cases X4:o.guard with
     |some g=>rfl
     |none=>
      rw[X4]at ju;cases hl:c.args.toList with
      |nil=>rfl
      |cons y ys=>
       cases ys with
       |nil=>rfl
       |cons z zs=>
        cases zs with
        |cons _ _=>rfl
        |nil=>
         rw[hl]at ju;have hy:=vk y (by rw[hl];simp);have hz:=vk z (by rw[hl];simp);simp only at ju⊢;cases hg:AVal.get (τ.opd y) .str with
         |none=>rewrite [hg]at ju;exact absurd rfl ju
         |some u=>
          cases YU:AVal.get (τ.opd z) .str with
          |none=>rewrite [hg,YU]at ju;exact absurd rfl ju
          |some v=>rw[WW hy _ (by rw[hg];simp),hg,WW hz _ (by rw[YU];simp),YU]
    |none=>
    rw[hI]at ju;simp only at ju⊢;cases hs:Γ.sig f with
    |none=>rfl
    |some s=>
     rw[hs]at ju;simp only at ju⊢;cases hv:KF τ (St.arg Γ τ) s.ats c.args.toList with
     |none=>rewrite [hv]at ju;exact absurd rfl ju
     |some xs=>rw[LL s.ats c.args.toList vk (by rw[hv];simp),hv]
   |const v=>cases v<;>first|rfl|(rename_i a;cases a<;>rfl)
   |global g=>rfl
   |tmp s=>
    simp only at ju⊢;rcases hxo with⟨hx,_⟩|hx
    ·rewrite [hx]at ju;exact absurd rfl ju
    ·rw [hx];cases hv:τ.opd (.tmp s)with
     |none=>rfl
     |some v=>
      rw[hv]at ju;cases v with
      |data t v ow=>
       cases t with
       |fn a r=>
        cases hl:c.args.toList with
        |nil=>rfl
        |cons y ys=>
         cases ys with
         |nil=>
          rw[hl]at ju;have hy:=vk y (by rw[hl];simp);simp only at ju⊢;cases hg:AVal.get (τ.opd y) a with
          |none=>rewrite [hg]at ju;exact absurd rfl ju
          |some z=>rw[WW hy _ (by rw[hg];simp),hg]
         |cons _ _=>rfl
       |_=>rfl
      |clo g caps=>
       simp only at ju⊢;cases hs:Γ.sig g with
       |none=>rfl
       |some s=>
        cases Kt:GK caps with
        |none=>rfl
        |some cs=>
         rw[hs,Kt]at ju;simp only at ju⊢;cases hv:YW τ (St.arg Γ τ) s.ats c.args.toList cs with
         |none=>rewrite [hv]at ju;exact absurd rfl ju
         |some xs=>rw[IE cs s.ats c.args.toList vk (by rw[hv];simp),hv]
      |_=>rfl
  |invoke r n=>simp only[jK,jx,jI]
  |builtin b=>
   cases b
   case len =>
    rw[jx]at Zf;have Zf:∀x∈c.args.toList,∀t,((∃p,τ.opd x=some (.bptr t p))∨τ.opd x=some (.rowp t)∨τ.opd x=some (.mapp t))→jG o τ = .rd t∨jG o τ = .wr t→∀B,τ.box t=some B→σ.box t=some B:=fun x hx=>Zf x (by simp only[Op.operands,Call.operands,jI];simpa using hx)
    simp only[jK,jx,jI]at ju⊢;cases hl:c.args.toList with
    |nil=>rfl
    |cons x xs=>
     cases xs with
     |cons _ _=>rfl
     |nil =>
      cases Ff:c.argTypes.toList with
      |nil=>rfl
      |cons T Ts=>
       cases Ts with
       |cons _ _=>rfl
       |nil=>
        rw[hl,Ff]at ju;simp only at ju⊢;rcases vk x (by rw[hl];simp)with⟨hx,_⟩|hx
        ·rewrite [hx]at ju;exact absurd rfl ju
        ·rw [hx];cases hv:τ.opd x with
         |none=>rfl
         |some v=>
          cases v with
          |rowp b=>
           cases hB:τ.box b with
           |none=>rw[hv]at ju;cases hT:Γ.ty T with
            |none=>rfl
            |some u=>rw[hT]at ju;cases u<;>first|rfl|(simp only[hB]at ju;exact absurd rfl ju)
           |some B=>
            have e1:=Zf x (by rw[hl];simp) b (.inr (.inl hv)) (.inl (by simp only[jG,jx,jI,hl,hv])) B hB;cases hT:Γ.ty T with
            |none=>rfl
            |some u=>cases u<;>first|rfl|simp only[e1,hB]
          |mapp b=>
           cases hB:τ.box b with
           |none=>rw[hv]at ju;cases hT:Γ.ty T with
            |none=>rfl
            |some u=>rw[hT]at ju;cases u<;>first|rfl|(simp only[hB]at ju;exact absurd rfl ju)
           |some B=>
            have e1:=Zf x (by rw[hl];simp) b (.inr (.inr hv)) (.inl (by simp only[jG,jx,jI,hl,hv])) B hB;cases hT:Γ.ty T with
            |none=>rfl
            |some u=>cases u<;>first|rfl|simp only[e1,hB]
          |data t v ow=>
           cases hT:Γ.ty T with
           |none=>cases t<;>rfl
           |some u=>cases t<;>cases u<;>rfl
          |_=>rfl
   case max=>
    simp only[jK,jx,jI]at ju⊢;cases hl:c.args.toList with
    |nil=>rfl
    |cons x xs=>
     cases xs with
     |nil=>rfl
     |cons y ys=>
      cases ys with
      |cons _ _=>rfl
      |nil=>
       rw[hl]at ju;simp only at ju⊢;rcases vk x (by rw[hl];simp)with⟨hx,_⟩|hx
       ·rewrite [hx]at ju;exact absurd rfl ju
       ·rw[hx];rcases vk y (by rw[hl];simp)with⟨hy,_⟩|hy
        ·rw[hy]at ju;cases hv:τ.opd x with
         |none=>rewrite [hv]at ju;exact absurd rfl ju
         |some v=>rw[hv]at ju;cases v<;>first|exact absurd rfl ju|(rename_i t _ _;cases t<;>exact absurd rfl ju)
        ·rw[hy]
   case min=>
    simp only[jK,jx,jI]at ju⊢;cases hl:c.args.toList with
    |nil=>rfl
    |cons x xs=>
     cases xs with
     |nil=>rfl
     |cons y ys=>
      cases ys with
      |cons _ _=>rfl
      |nil=>
       rw[hl]at ju;simp only at ju⊢;rcases vk x (by rw[hl];simp)with⟨hx,_⟩|hx
       ·rewrite [hx]at ju;exact absurd rfl ju
       ·rw[hx];rcases vk y (by rw[hl];simp)with⟨hy,_⟩|hy
        ·rw[hy]at ju;cases hv:τ.opd x with
         |none=>rewrite [hv]at ju;exact absurd rfl ju
         |some v=>rw[hv]at ju;cases v<;>first|exact absurd rfl ju|(rename_i t _ _;cases t<;>exact absurd rfl ju)
        ·rw[hy]
   case append=>
    simp only[jK,jx,jI]at ju⊢;cases hl:c.args.toList with
    |nil=>rfl
    |cons x xs=>
     cases xs with
     |nil=>rfl
     |cons y ys=>
      cases ys with
      |cons _ _=>rfl
      |nil =>
       cases Ff:c.argTypes.toList with
       |nil=>rfl
       |cons T Ts=>
        cases Ts with
        |nil=>rfl
        |cons U Us=>
         cases Us with
         |cons _ _=>rfl
         |nil=>
          rw[hl,Ff]at ju;simp only at ju⊢;rcases vk x (by rw[hl];simp)with⟨hx,_⟩|hx
          ·rewrite [hx]at ju;exact absurd rfl ju
          ·rw[hx];rcases vk y (by rw[hl];simp)with⟨hy,_⟩|hy
           ·rw[hy]at ju;cases hv:τ.opd x with
            |none=>rewrite [hv]at ju;exact absurd rfl ju
            |some v=>rw[hv]at ju;cases v<;>first|exact absurd rfl ju|(rename_i t _ _;cases t<;>exact absurd rfl ju)
           ·rw[hy]
   all_goals simp only[jK,jx,jI]
 all_goals simp only[jK,jx]
end Go.Lift
namespace Go.Lift
open Go Go.RowKit
variable [wB] [Mf]
variable {P:Program} {Γ:QW} {σ τ σ' τ':St} {all:List Oper}
def Sj(g:Bool)(o:Oper)(σ:St):Eff→Prop
 |.alloc _=>(∃T,o.op = .alloc T)∨(∃T x,o.op = .box T x)∨∃T r,o.op = .makeMap T r
 |.store b B=>(∃T x y p B0,o.op = .store T x y∧σ.opd x=some (.bptr b p)∧σ.box b=some B0∧B.t=B0.t)∨∃T x y z B0,o.op = .mapUpdate T x y z∧σ.opd x=some (.mapp b)∧σ.box b=some B0∧B.t=B0.t
 |.fresh _ _ _=>(∃T n ps,o.op = .buildSlice T n ps)∨∃T n c,o.op = .makeSlice T n c
 |.row .. => (∃T n c,o.op = .makeSlice T n c)∨(o.guard=none∧∃T n ps,o.op = .buildSlice T n ps)
 |.newRow .. => o.guard=none∧∃c x,o.op = .call c∧c.callee = .value x
 |.newOwn .. => (o.guard=none∨g=true)∧∃c x,o.op = .call c∧c.callee = .value x
 |.newIter .. => o.guard=none∧∃c x,o.op = .call c∧c.callee = .value x
 |.app .. => ∃c,o.op = .call c∧c.callee = .builtin .append
 |_=>True
theorem yck(g:Bool)(o:Oper)(op:BinOp)(k:IntKind)(x y:Int):Sj g o σ (oa op k x y):=by
 cases op<;>exact True.intro
theorem y6s(g:Bool)(o:Oper)(op:BinOp)(k:IntKind)(x y:Int):Sj g o σ (sW op k x y):=by
 cases op<;>exact True.intro
theorem TK(g:Bool)(o:Oper)(v:Option AVal):Sj g o σ (EH v):=by
 cases v<;>exact True.intro
theorem Tz(o:Oper)(σ:St):Sj Γ.gown o σ (jK Γ o σ):=by
 cases jx:o.op;case store T x y=>
  simp only[jK,jx];split
  ·rename_i u b p u' v ow hu hx hy;split
   ·rename_i B v' hB ZC;split
    ·exact .inl ⟨T,x,y,p,B,jx,hx,hB,rfl⟩
    ·exact True.intro
   ·exact True.intro
  ·exact True.intro
 case binOp op T x y U=>
  simp only[jK,jx]
  (repeat' split)<;>first|exact True.intro|exact yck _ _ _ _ _ _|exact y6s _ _ _ _ _ _
 case alloc T=>simp only[jK,jx];(repeat' split)<;>first|exact True.intro|exact .inl ⟨T,jx⟩
 case box T x=>simp only[jK,jx];(repeat' split)<;>first|exact True.intro|exact .inr (.inl ⟨T,x,jx⟩)
 case makeMap T r=>cases r<;>simp only[jK,jx]<;>(repeat' split)<;>first|exact True.intro|exact .inr (.inr ⟨T,_,jx⟩)
 case lookup T x i c=>cases c<;>simp only[jK,jx]<;>(repeat' split)<;>exact True.intro
 case mapUpdate T x i y=>
  simp only[jK,jx];split
  ·rename_i b hx;split
   ·rename_i t' k v l own hB;split
    ·split
     ·exact .inr ⟨T,x,i,y,_,jx,hx,hB,rfl⟩
     ·exact True.intro
    ·exact True.intro
   ·exact True.intro
  ·exact True.intro
 case buildSlice T n ps=>
  simp only[jK,jx];split
  ·split
   ·split
    ·split
     ·cases hg:o.guard.isNone&&o.dst.any Γ.own with
      |true=>
       simp only[qg,Option.isNone_iff_eq_none]at hg;exact .inr ⟨hg.1,T,n,ps,jx⟩
      |false=>exact .inl ⟨T,n,ps,jx⟩
     ·exact True.intro
    ·exact True.intro
   ·exact True.intro
  ·exact True.intro
 case makeSlice T n c=>simp only[jK,jx];(repeat' split)<;>first|exact True.intro|exact .inr ⟨T,n,c,jx⟩|exact .inl ⟨T,n,c,jx⟩
 case call c=>
  cases jI:c.callee with
  |value x=>cases x<;>simp only[jK,jx,jI]<;>(repeat' split)<;>first|exact True.intro|exact⟨c,jx,jI⟩|exact⟨by assumption,c,_,jx,jI⟩|exact⟨by simp_all,c,_,jx,jI⟩
  |builtin b=>cases b<;>simp only[jK,jx,jI]<;>(repeat' split)<;>first|exact True.intro|exact⟨c,jx,jI⟩
  |invoke r n=>simp only[jK,jx,jI];exact True.intro
 case move x=>cases x<;>simp only[jK,jx]<;>(repeat' split)<;>first|exact True.intro|exact TK _ _ _
 case assign x=>cases x<;>simp only[jK,jx]<;>(repeat' split)<;>first|exact True.intro|exact TK _ _ _
 case slice T x lo hi mx=>cases mx<;>simp only[jK,jx]<;>(repeat' split)<;>exact True.intro
 case makeFunc fn fs caps=>cases fn<;>simp only[jK,jx]<;>(repeat' split)<;>exact True.intro
 case unOp op T x=>cases op<;>simp only[jK,jx]<;>(repeat' split)<;>exact True.intro
 all_goals
  simp only[jK,jx]
  (repeat' split)<;>first|exact True.intro|exact TK _ _ _
def Yw(all:List Oper)(o:Oper)(σ:St):Option Bool:=
 match o.guard with
 |none=>some true
 | some (j,w)=>match Vr all j with
  |some d=>match σ.env d with
   |some (.data .bool b _)=>some (b==w)
   |some .undef=>some false
   |_=>none
  |none=>none
def stepG(Γ:QW)(all:List Oper)(o:Oper)(σ:St):Option St:=
 match Yw all o σ with
 |some true=>ZI Γ o σ
 |some false=>some (σ.set o.dst .undef)
 |none=>none
def z9j(Γ:QW)(all:List Oper)(lg:QD):List Nat→St→St→Prop
 |[],σ,τ=>τ=σ
 |i::l,σ,τ=>∃o σ1,all[i]?=some o∧(∀f,(i,f)∈lg→f=jG o σ)∧stepG Γ all o σ=some σ1∧z9j Γ all lg l σ1 τ
theorem z9j.append{lg:QD}:∀{l m:List Nat} {σ σ1 τ:St},z9j Γ all lg l σ σ1→z9j Γ all lg m σ1 τ→z9j Γ all lg (l++m) σ τ
 |[],_,_,_,_,h,k=>by simp only[z9j]at h;subst h;exact k
 |_::_,_,_,_,_,⟨o,σ2,h1,h2,h3,h4⟩,k=>⟨o,σ2,h1,h2,h3,h4.append k⟩
structure Wk (τ σ:St):Prop where
 env:∀s v,τ.env s=some v→σ.env s=some v
 box:σ.box=τ.box
 dirty:σ.dirty=τ.dirty
 tok:∀k,σ.tok k=true→τ.tok k=true
 dis:∀i B,τ.box i=some B→τ.tok i=false
theorem Wk.refl(h:∀i B,σ.box i=some B→σ.tok i=false):Wk σ σ:=⟨fun _ _ h=>h,rfl,rfl,fun _ h=>h,h⟩
theorem Wk.le(h:Wk τ σ)(o:Oper):Le o τ σ:=
 ⟨fun x _=>PJ fun s _ v hv=>h.env s v hv,fun _ _ _ _ _ B hB=>by rw[h.box,hB];rfl,fun _ _ _ _ _ B hB=>by rw[h.box,hB]⟩
theorem Wk.bool(h:Wk τ σ){x:Operand}{b:Bool}(hb:τ.bool x=some b):σ.bool x=some b:=by
 unfold St.bool at*;rw[WW (PJ fun s _ v hv=>h.env s v hv) _ (by rw[hb];simp)];exact hb
theorem Wk.set(h:Wk τ σ)(d:Option Nat)(v:AVal):Wk (τ.set d v) (σ.set d v):=by
 refine⟨fun s u hs =>?_,by rw[EN,EN];exact h.box,by rw[mS,mS];exact h.dirty,by rw[CO,CO];exact h.tok,by rw[EN,CO];exact h.dis⟩;by_cases hd:d=some s
 ·subst hd;simpa only[St.set,jy]using hs
 ·rw[Ci _ _ _ _ hd]at hs⊢;exact h.env s u hs
theorem Wk.unset(h:Wk τ σ)(d:Option Nat):Wk (τ.unset d) (σ.unset d):=by
 refine⟨fun s u hs =>?_,by rw[tw,tw];exact h.box,by rw[U9,U9];exact h.dirty,by rw[C1,C1];exact h.tok,by rw[tw,C1];exact h.dis⟩;by_cases hd:d=some s
 ·subst hd;simpa only[St.unset,jy]using hs
 ·rw[uu _ _ _ hd]at hs⊢;exact h.env s u hs
theorem Wk.lose(h:Wk τ σ)(k:Option Nat):Wk (τ.lose k) (σ.lose k):=by
 cases k with
 |none=>exact h
 |some k=>
  refine⟨fun s u hs =>?_,?_,?_,fun j hj =>?_,fun i B hB =>?_⟩
  ·simp only[St.lose,qB]at hs⊢;obtain⟨v,hv,rfl⟩:=hs;exact⟨v,h.env s v hv,rfl⟩
  ·simp only[St.lose,h.box]
  ·simp only[St.lose,h.dirty]
  ·simp only[St.lose]at hj⊢;cases hb:Nat.beq j k with
   |true=>rw[hb]at hj;cases hj
   |false=>rw[hb]at hj;exact h.tok j hj
  ·simp only[St.lose,qB]at hB;obtain⟨B0,Zh,rfl⟩:=hB;have:=h.dis i B0 Zh;simp only[St.lose,this];cases Nat.beq i k<;>rfl
theorem Wk.tokF(h:Wk τ σ){d:Nat}(hd:τ.tok d=false):σ.tok d=false:=by
 cases hs:σ.tok d with
 |false=>rfl
 |true=>rw[h.tok d hs]at hd;cases hd
theorem ybe(h:Wk τ σ){o:Oper}(hs:ZI Γ o τ=some τ'):∃σ',ZI Γ o σ=some σ'∧Wk τ' σ':=by
 unfold ZI at hs⊢;have ju:jK Γ o τ ≠ .fail:=fun e=>by rw[e]at hs;cases hs
 rw[Sn (h.le o) ju];have hk:=Tz (Γ:=Γ) o τ;generalize jK Γ o τ=e at hs hk;cases e with
 |fail=>cases hs
 |val v=>simp only[Eff.runK,qb]at hs⊢;subst hs;exact⟨_,rfl,h.set _ _⟩
 |chk c v=>
  cases c with
  |false=>simp[Eff.runK,Lift.chk]at hs
  |true=>simp only[Eff.runK,Lift.chk,qv,qb]at hs⊢;subst hs;exact⟨_,rfl,h.set _ _⟩
 |cat x y=>
  simp only[Eff.runK]at hs⊢;obtain⟨r,hr,hs⟩:=qi.1 hs;simp only[qb]at hs;subst hs;exact⟨_,by rw[hr];rfl,h.set _ _⟩
 |bytes x=>simp only[Eff.runK,qb]at hs⊢;subst hs;exact⟨_,rfl,h.set _ _⟩
 |call s x=>
  simp only[Eff.runK]at hs⊢;obtain⟨r,hr,hs⟩:=qi.1 hs;simp only[qb]at hs;subst hs;exact⟨_,by rw[hr];rfl,h.set _ _⟩
 |newRow tid e y=>
  simp only[Eff.runK]at hs⊢;split at hs
  ·rename_i d hd;split at hs
   ·rename_i hb ht;obtain⟨l,hl,hs⟩:=qi.1 hs;simp only[qb]at hs;subst hs;refine⟨{σ with env:=vH σ.env d (some (.rowp d)),box:=vH σ.box d (some ⟨tid,.slice e,l,[],true⟩)},?_,⟨fun s u hu =>?_,by simp only[h.box],h.dirty,h.tok,fun i B' vB =>?_⟩⟩
    ·simp only[h.box,hb,h.tokF ht,hl,qh]
    ·by_cases Xi:s=d
     ·subst Xi;simpa only[jy]using hu
     ·simp only[vN _ _ _ _ Xi]at hu⊢;exact h.env s u hu
    ·by_cases hid:i=d
     ·subst hid;exact ht
     ·simp only[vN _ _ _ _ hid]at vB;exact h.dis i B' vB
   ·cases hs
  ·cases hs
 |newOwn e y=>
  simp only[Eff.runK]at hs⊢;split at hs
  ·rename_i d hd;split at hs
   ·rename_i hb ht;obtain⟨l,hl,hs⟩:=qi.1 hs;simp only[qb]at hs;subst hs;refine⟨{σ with env:=vH σ.env d (some (.data (.slice e) l [([],some d)])),tok:=vH σ.tok d true},?_,⟨fun s u hu =>?_,h.box,h.dirty,fun k hk =>?_,fun i B' vB =>?_⟩⟩
    ·simp only[h.box,hb,h.tokF ht,hl,qh]
    ·by_cases Xi:s=d
     ·subst Xi;simpa only[jy]using hu
     ·simp only[vN _ _ _ _ Xi]at hu⊢;exact h.env s u hu
    ·by_cases Wo:k=d
     ·subst Wo;exact jy _ _ _
     ·simp only[vN _ _ _ _ Wo]at hk⊢;exact h.tok k hk
    ·have hid:i≠d:=fun e=>by rw[e]at vB;simp only[hb]at vB;cases vB
     simp only[vN _ _ _ _ hid];exact h.dis i B' vB
   ·cases hs
  ·cases hs
 |newIter e F x=>
  simp only[Eff.runK]at hs⊢;split at hs
  ·rename_i d hd;split at hs
   ·rename_i hb ht;simp only[qb]at hs;subst hs;refine⟨{σ with env:=vH σ.env d (some (.iter d e F)),box:=vH σ.box d (some ⟨0,.str,x,[],false⟩)},?_,⟨fun s u hu =>?_,by simp only[h.box],h.dirty,h.tok,fun i B' vB =>?_⟩⟩
    ·simp only[h.box,hb,h.tokF ht]
    ·by_cases Xi:s=d
     ·subst Xi;simpa only[jy]using hu
     ·simp only[vN _ _ _ _ Xi]at hu⊢;exact h.env s u hu
    ·by_cases hid:i=d
     ·subst hid;exact ht
     ·simp only[vN _ _ _ _ hid]at vB;exact h.dis i B' vB
   ·cases hs
  ·cases hs
 |dyn a r φ x=>
  simp only[Eff.runK]at hs⊢;obtain⟨r,hr,hs⟩:=qi.1 hs;simp only[qb]at hs;subst hs;exact⟨_,by rw[hr];rfl,h.set _ _⟩
 |alloc B=>
  simp only[Eff.runK]at hs⊢;split at hs
  ·rename_i d hd;split at hs
   ·rename_i hb ht;simp only[qb]at hs;subst hs;refine⟨{σ with env:=vH σ.env d (some (B.ptr d)),box:=vH σ.box d (some B)},?_,⟨fun s u hu =>?_,by simp only[h.box],h.dirty,h.tok,fun i B' vB =>?_⟩⟩
    ·simp only[h.box,hb,h.tokF ht]
    ·by_cases Xi:s=d
     ·subst Xi;simpa only[jy]using hu
     ·simp only[vN _ _ _ _ Xi]at hu⊢;exact h.env s u hu
    ·by_cases hid:i=d
     ·subst hid;exact ht
     ·simp only[vN _ _ _ _ hid]at vB;exact h.dis i B' vB
   ·cases hs
  ·cases hs
 |store b B=>
  simp only[Eff.runK,qb]at hs⊢;subst hs;have hu:=h.unset o.dst;obtain⟨B0,Zh⟩:∃B0,τ.box b=some B0:=by
   rcases hk with⟨_,_,_,_,B0,_,_,Zh,_⟩|⟨_,_,_,_,B0,_,_,Zh,_⟩<;>exact⟨B0,Zh⟩
  refine⟨_,rfl,⟨hu.env,by simp only[h.box],by simp only[h.dirty],by simpa only[C1]using h.tok,fun i B' vB =>?_⟩⟩;simp only[C1];by_cases XG:i=b
  ·subst XG;exact h.dis i B0 Zh
  ·simp only[vN _ _ _ _ XG]at vB;exact h.dis i B' vB
 |fresh c e l=>
  simp only[Eff.runK]at hs⊢;split at hs
  ·rename_i d hd;split at hs
   ·rename_i hb ht;cases c with
    |false=>simp[Lift.chk]at hs
    |true=>
     simp only[Lift.chk,qv,qb]at hs;subst hs;refine⟨{σ with env:=vH σ.env d (some (.data (.slice e) l [([],some d)])),tok:=vH σ.tok d true},?_,⟨fun s u hu =>?_,h.box,h.dirty,fun k hk =>?_,fun i B' vB =>?_⟩⟩
     ·simp only[h.box,hb,h.tokF ht,Lift.chk,qv]
     ·by_cases Xi:s=d
      ·subst Xi;simpa only[jy]using hu
      ·simp only[vN _ _ _ _ Xi]at hu⊢;exact h.env s u hu
     ·by_cases Wo:k=d
      ·subst Wo;exact jy _ _ _
      ·simp only[vN _ _ _ _ Wo]at hk⊢;exact h.tok k hk
     ·have hid:i≠d:=fun e=>by rw[e]at vB;simp only[hb]at vB;cases vB
      simp only[vN _ _ _ _ hid];exact h.dis i B' vB
   ·cases hs
  ·cases hs
 |row c tid e l=>
  simp only[Eff.runK]at hs⊢;split at hs
  ·rename_i d hd;split at hs
   ·rename_i hb ht;cases c with
    |false=>simp[Lift.chk]at hs
    |true=>
     simp only[Lift.chk,qv,qb]at hs;subst hs;refine⟨{σ with env:=vH σ.env d (some (.rowp d)),box:=vH σ.box d (some ⟨tid,.slice e,l,[],true⟩)},?_,⟨fun s u hu =>?_,by simp only[h.box],h.dirty,h.tok,fun i B' vB =>?_⟩⟩
     ·simp only[h.box,hb,h.tokF ht,Lift.chk,qv]
     ·by_cases Xi:s=d
      ·subst Xi;simpa only[jy]using hu
      ·simp only[vN _ _ _ _ Xi]at hu⊢;exact h.env s u hu
     ·by_cases hid:i=d
      ·subst hid;exact ht
      ·simp only[vN _ _ _ _ hid]at vB;exact h.dis i B' vB
   ·cases hs
  ·cases hs
 |app e l m src=>
  have hl:=h.lose src;simp only[Eff.runK]at hs⊢;split at hs
  ·rename_i d hd;split at hs
   ·rename_i hb ht;obtain⟨r,hr,hs⟩:=qi.1 hs;simp only[qb]at hs;subst hs;refine⟨{σ.lose src with env:=vH (σ.lose src).env d (some (.data (.slice e) r [([],some d)])),tok:=vH (σ.lose src).tok d true},?_,⟨fun s u hu =>?_,hl.box,hl.dirty,fun k hk =>?_,fun i B' vB =>?_⟩⟩
    ·simp only[hl.box,hb,hl.tokF ht,hr,qh]
    ·by_cases Xi:s=d
     ·subst Xi;simpa only[jy]using hu
     ·simp only[vN _ _ _ _ Xi]at hu⊢;exact hl.env s u hu
    ·by_cases Wo:k=d
     ·subst Wo;exact jy _ _ _
     ·simp only[vN _ _ _ _ Wo]at hk⊢;exact hl.tok k hk
    ·have hid:i≠d:=fun e=>by rw[e]at vB;simp only[hb]at vB;cases vB
     simp only[vN _ _ _ _ hid];exact hl.dis i B' vB
   ·cases hs
  ·cases hs
end Go.Lift
namespace Go.Lift
open Go Go.RowKit
variable [wB] [Mf]
variable {P:Program} {Γ:QW} {σ τ σ' τ':St} {all:List Oper}
theorem yfo{o:Oper}(h:∀x∈o.op.operands.toList,Kf τ σ x)(ju:jK Γ o τ ≠ .fail):jG o σ=jG o τ:=by
 cases jx:o.op;case load T x=>
  rw[jx]at h;rcases h x (by simp[Op.operands])with⟨hx,_⟩|hx
  ·simp only[jK,jx,hx]at ju;exact absurd (by(repeat' split)<;>first|rfl|simp_all) ju
  ·simp only[jG,jx,hx]
 case store T x y=>
  rw[jx]at h;rcases h x (by simp[Op.operands])with⟨hx,_⟩|hx
  ·simp only[jK,jx,hx]at ju;exact absurd (by(repeat' split)<;>first|rfl|simp_all) ju
  ·simp only[jG,jx,hx]
 case indexAddr T x i=>
  rw[jx]at h;rcases h x (by simp[Op.operands])with⟨hx,_⟩|hx
  ·simp only[jK,jx,hx]at ju;exact absurd (by(repeat' split)<;>first|rfl|simp_all) ju
  ·simp only[jG,jx,hx]
 case lookup T x i c=>
  rw[jx]at h;rcases h x (by simp[Op.operands])with⟨hx,_⟩|hx
  ·cases c<;>simp only[jK,jx,hx]at ju<;>exact absurd rfl ju
  ·simp only[jG,jx,hx]
 case mapUpdate T x i y=>
  rw[jx]at h;rcases h x (by simp[Op.operands])with⟨hx,_⟩|hx
  ·simp only[jK,jx,hx]at ju;exact absurd rfl ju
  ·simp only[jG,jx,hx]
 case call c=>
  rw[jx]at h;cases jI:c.callee with
  |value x=>simp only[jG,jx,jI]
  |invoke r n=>simp only[jG,jx,jI]
  |builtin b=>
   cases b;case len=>
    simp only[jG,jx,jI];cases hl:c.args.toList with
    |nil=>rfl
    |cons x xs=>
     cases xs with
     |cons _ _=>rfl
     |nil=>
      rcases h x (by simp only[Op.operands,Call.operands,jI];simpa using (show x∈c.args.toList by rw[hl];simp))with⟨hx,_⟩|hx
      ·simp only[jK,jx,jI,hl,hx]at ju;exact absurd (by(repeat' split)<;>first|rfl|simp_all) ju
      ·simp only[hx]
   case append=>
    simp only[jG,jx,jI];cases hl:c.args.toList with
    |nil=>rfl
    |cons x xs=>
     cases xs with
     |nil=>rfl
     |cons y ys=>
      cases ys with
      |cons _ _=>rfl
      |nil=>
       rcases h x (by simp only[Op.operands,Call.operands,jI];simpa using (show x∈c.args.toList by rw[hl];simp))with⟨hx,_⟩|hx
       ·simp only[jK,jx,jI,hl,hx]at ju;exact absurd (by(repeat' split)<;>first|rfl|simp_all) ju
       ·simp only[hx]
   all_goals simp only[jG,jx,jI]
 all_goals simp only[jG,jx]
theorem mJ{o:Oper}(h:ZI Γ o σ=some σ'):jK Γ o σ ≠ .fail:=fun e=>by
 unfold ZI at h;rw[e]at h;cases h
structure D0 (o:Oper) (σ σ':St):Prop where
 env:∀s,o.dst≠some s→σ'.env s=σ.env s
 box:σ'.box=σ.box
 dirty:σ'.dirty=σ.dirty
 tok:∀k,σ'.tok k=true→σ.tok k=true∨(o.dst=some k∧∃T n ps,o.op = .buildSlice T n ps)
theorem I4(Q0:Γ.gown=false){o:Oper}(hg:WX o=true)(h:ZI Γ o σ=some σ'):D0 o σ σ':=by
 have hk:=Tz (Γ:=Γ) o σ;unfold ZI at h;have Qf:∀v,D0 o σ (σ.set o.dst v):=fun v=>⟨fun s hs=>Ci _ _ _ _ hs,EN _ _ _,mS _ _ _,fun k hk=>by rw[CO]at hk;exact .inl hk⟩
 generalize jK Γ o σ=e at h hk;cases e with
 |fail=>cases h
 |val v=>simp only[Eff.runK,qb]at h;subst h;exact Qf v
 |chk c v=>
  cases c with
  |false=>simp[Eff.runK,Lift.chk]at h
  |true=>simp only[Eff.runK,Lift.chk,qv,qb]at h;subst h;exact Qf v
 |cat x y=>
  simp only[Eff.runK]at h;obtain⟨r,hr,h⟩:=qi.1 h;simp only[qb]at h;subst h;exact Qf _
 |bytes x=>simp only[Eff.runK,qb]at h;subst h;exact Qf _
 |call s x=>
  simp only[Eff.runK]at h;obtain⟨r,hr,h⟩:=qi.1 h;simp only[qb]at h;subst h;exact Qf _
 |newRow tid e y=>
  obtain⟨BG,c,x,jx,jI⟩:=hk;simp[WX,jx,jI,BG]at hg
 |newOwn e y=>
  obtain⟨BG,c,x,jx,jI⟩:=hk;rw[Q0]at BG;simp at BG;simp[WX,jx,jI,BG]at hg
 |newIter e F x=>
  obtain⟨BG,c,x,jx,jI⟩:=hk;simp[WX,jx,jI,BG]at hg
 |dyn a r φ x=>
  simp only[Eff.runK]at h;obtain⟨r,hr,h⟩:=qi.1 h;simp only[qb]at h;subst h;exact Qf _
 |alloc B=>
  rcases hk with⟨T,jx⟩|⟨T,x,jx⟩|⟨T,x,jx⟩<;>simp[WX,jx]at hg
 |store b B=>
  rcases hk with⟨T,x,y,p,B0,jx,_⟩|⟨T,x,y,z,B0,jx,_⟩<;>simp[WX,jx]at hg
 |row c tid e l=>
  rcases hk with⟨T,n,c',jx⟩|⟨BG,T,n,c',jx⟩
  ·simp[WX,jx]at hg
  ·simp[WX,jx,BG]at hg
 |app e l m src=>
  obtain⟨c,jx,jI⟩:=hk;simp[WX,jx,jI]at hg
 |fresh c e l=>
  rcases hk with⟨T,n,ps,jx⟩|⟨T,n,c',jx⟩
  ·simp only[Eff.runK]at h;split at h
   ·rename_i d hd;split at h
    ·cases c with
     |false=>simp[Lift.chk]at h
     |true=>
      simp only[Lift.chk,qv,qb]at h;subst h;refine⟨fun s hs=>vN _ _ _ _ (fun e=>hs (by rw[hd,e])),rfl,rfl,fun k hk =>?_⟩;by_cases Wo:k=d
      ·subst Wo;exact .inr ⟨hd,T,n,ps,jx⟩
      ·simp only[vN _ _ _ _ Wo]at hk;exact .inl hk
    ·cases h
   ·cases h
  ·simp[WX,jx]at hg
theorem y1g(Q0:Γ.gown=false){o:Oper}(hg:WX o=true)(h:stepG Γ all o σ=some σ'):D0 o σ σ':=by
 unfold stepG at h;split at h
 ·exact I4 Q0 hg h
 ·simp only[qb]at h;subst h;exact⟨fun s hs=>Ci _ _ _ _ hs,EN _ _ _,mS _ _ _,fun k hk=>by rw[CO]at hk;exact .inl hk⟩
 ·cases h
def Seg(all:List Oper)(i:Nat)(l:List Oper):Prop:=∀j o,l[j]?=some o→all[i+j]?=some o
theorem Seg.head{i:Nat}{o:Oper}{l:List Oper}(h:Seg all i (o::l)):all[i]?=some o:=h 0 o rfl
theorem Seg.tail{i:Nat}{o:Oper}{l:List Oper}(h:Seg all i (o::l)):Seg all (i+1) l:=fun j o' hj=>by
 have:=h (j+1) o' (by simpa using hj);rwa [show i+(j+1)=i+1+j by omega]at this
theorem Seg.left{i:Nat}{l m:List Oper}(h:Seg all i (l++m)):Seg all i l:=fun j o hj=>by
 have hlt:=(qp.1 hj).1;exact h j o (by rw[zf hlt];exact hj)
theorem Seg.right{i:Nat}{l m:List Oper}(h:Seg all i (l++m)):Seg all (i+l.length) m:=fun j o hj=>by
 have:=h (l.length+j) o (by rw[zm (by omega)];simpa using hj);rwa [←xA]at this
theorem tP:∀{l:List Nat},nodupB l=true→l.Nodup
 |[],_=>xn
 |a::r,h=>by
  simp only[nodupB,qg,zO,jb]at h;refine z6.2 ⟨fun hm =>?_,tP h.2⟩;have:=h.1 a hm;exact this (ym a)
theorem gw:∀{all:List Oper},(QE all).Nodup→∀{i j:Nat} {a b:Oper} {d:Nat},all[i]?=some a→all[j]?=some b→a.dst=some d→b.dst=some d→i=j
 |[],_,_,_,_,_,_,ha,_,_,_=>by simp at ha
 | x::r,hn,i,j,a,b,d,ha,hb,eI,hdb=>by
  have vu:∀{k:Nat} {c:Oper},r[k]?=some c→c.dst=some d→d∈QE r:=fun hc hd=>yd.2 ⟨_,qK hc,hd⟩
  have hr:(QE r).Nodup:=by
   unfold QE at hn⊢;cases hx:x.dst with
   |none=>rw[List.filterMap_cons_none hx]at hn;exact hn
   |some e=>rw[List.filterMap_cons_some hx]at hn;exact(z6.1 hn).2
  have hx:x.dst=some d→d∉QE r:=fun hx=>by
   unfold QE at hn⊢;rw[List.filterMap_cons_some hx]at hn;exact(z6.1 hn).1
  cases i with
  |zero=>
   cases j with
   |zero=>rfl
   |succ j=>
    simp only[zr,qb,z8]at ha hb;subst ha;exact absurd (vu hb hdb) (hx eI)
  |succ i=>
   cases j with
   |zero=>
    simp only[zr,qb,z8]at ha hb;subst hb;exact absurd (vu ha eI) (hx hdb)
   |succ j=>
    simp only[z8]at ha hb;rw[gw hr ha hb eI hdb]
theorem AF{i d:Nat}(h:Vr all i=some d):∃o,all[i]?=some o∧o.dst=some d:=by
 unfold Vr at h;exact qi.1 h
theorem Uz{i:Nat}{o:Oper}(h:all[i]?=some o):Vr all i=o.dst:=by
 unfold Vr;rw[h];rfl
theorem IB(Q0:Γ.gown=false){lg:QD}:∀{l:List Nat} {σ σ':St},(∀i o,i∈l→all[i]?=some o→WX o=true)→z9j Γ all lg l σ σ'→
  (∀s,(∀i,i∈l→Vr all i≠some s)→σ'.env s=σ.env s)∧σ'.box=σ.box∧σ'.dirty=σ.dirty∧∀k,σ'.tok k=true→σ.tok k=true∨∃i o,i∈l∧all[i]?=some o∧o.dst=some k∧∃T n ps,o.op = .buildSlice T n ps
 |[],_,_,_,h=>by
  simp only[z9j]at h;subst h;exact⟨fun _ _=>rfl,rfl,rfl,fun _ h =>.inl h⟩
 | i::l,σ,σ',hg,⟨o,σ1,h1,_,h3,h4⟩=>by
  have hq:=y1g Q0 (hg i o (by simp) h1) h3;obtain⟨e1,e2,e3,e4⟩:=IB Q0 (fun j o' hj=>hg j o' (qo _ hj)) h4;refine⟨fun s hs=>(e1 s fun j hj=>hs j (qo _ hj)).trans (hq.env s ?_),e2.trans hq.box,e3.trans hq.dirty,fun k hk =>?_⟩
  ·rw[←Uz h1];exact hs i (by simp)
  ·rcases e4 k hk with h|⟨j,o',hj,r⟩
   ·rcases hq.tok k h with h|⟨hd,hb⟩
    ·exact .inl h
    ·exact .inr ⟨i,o,by simp,h1,hd,hb⟩
   ·exact .inr ⟨j,o',qo _ hj,r⟩
theorem y88(e:Eff)(d:Option Nat)(σ:St){A:Type}(k:St→Option A):e.runK d σ k=(e.runK d σ some).bind k:=by
 cases e with
 |fail=>rfl
 |val v=>rfl
 |chk c v=>cases c<;>rfl
 |cat a b=>simp only[Eff.runK];cases Lift.cat a b<;>rfl
 |bytes a=>rfl
 |call s x=>simp only[Eff.runK];cases s.run x<;>rfl
 |newRow tid e y=>simp only[Eff.runK];(repeat' split)<;>first|rfl|(cases y<;>rfl)
 |newOwn e y=>simp only[Eff.runK];(repeat' split)<;>first|rfl|(cases y<;>rfl)
 |newIter e F x=>simp only[Eff.runK];(repeat' split)<;>rfl
 |dyn a r φ x=>simp only[Eff.runK];cases φ x<;>rfl
 |alloc B=>simp only[Eff.runK];(repeat' split)<;>rfl
 |store b B=>rfl
 |fresh c e l=>simp only[Eff.runK];(repeat' split)<;>first|rfl|(cases c<;>rfl)
 |row c tid e l=>simp only[Eff.runK];(repeat' split)<;>first|rfl|(cases c<;>rfl)
 |app e l m src=>
  simp only[Eff.runK]
  (repeat' split)<;>first|rfl|(cases Lift.app l m<;>rfl)
theorem y4d{o:Oper}{A:Type}{k:St→Option A}{r:A}(h:SD Γ o σ k=some r):∃σ',ZI Γ o σ=some σ'∧k σ'=some r:=by
 unfold SD at h;rw[y88]at h;exact qi.1 h
end Go.Lift
