/-
  The library's tables in memory; slices that a call has made.
-/
import Derived.Test.YtggnjngdmadbaaaGreatDoorLiftK
import Derived.Lib.LaidTab
set_option linter.all false
namespace Go.Lift
open Go
def TabAt(G:Nat)(k:IntKind)(zs:List Int)(M:Mem)(w:World):Prop:=
 (∃c t fr,w.heap[G]?=some (.cells c t fr)∧c.size=zs.length)∧∀(i:Nat) (z:Int),zs[i]?=some z→M G i=some (.int k z)
theorem TabAt.keep{G:Nat}{k:IntKind}{zs:List Int}{M M':Mem}{w w':World}(jL:Mem.le M M')(hs:zb7 w w')(h:TabAt G k zs M w):TabAt G k zs M' w':=by
 obtain⟨⟨c,t,fr,h1,h2⟩,h3⟩:=h;obtain⟨c',fA,h4,h5⟩:=hs G c t fr h1;exact⟨⟨c',t,fA,h4,by omega⟩,fun i z hz=>jL _ _ _ (h3 i z hz)⟩
@[reducible] def Nh (l:List (Nat×IntKind×List Int)):wB:=
 ⟨fun M w=>∀x,x∈l→TabAt x.1 x.2.1 x.2.2 M w,fun jL hs h x hx=>(h x hx).keep jL hs⟩
def y7h(G:Nat)(e:Bool)(M:Mem):Prop:=∃v,M G 0=some v∧match e with
 |true=>v = .nilIface∨∃t u,v = .iface t u
 |false=>∃m,v = .int .i64 m
theorem y7h.keep{G:Nat}{e:Bool}{M M':Mem}(jL:Mem.le M M')(h:y7h G e M):y7h G e M':=by
 obtain⟨v,h1,h2⟩:=h;exact⟨v,jL _ _ _ h1,h2⟩
@[reducible] def ybc (l:List (Nat×IntKind×List Int)) (c:List (Nat×Bool)):wB:=
 ⟨fun M w=>(∀x,x∈l→TabAt x.1 x.2.1 x.2.2 M w)∧∀y,y∈c→y7h y.1 y.2 M,fun jL hs h=>⟨fun x hx=>(h.1 x hx).keep jL hs,fun y hy=>(h.2 y hy).keep jL⟩⟩
theorem TabAt.is{P:Program}{G:Nat}{k:IntKind}{zs:List Int}{M:Mem}{w:World}{name:String}(h:TabAt G k zs M w)(hg:∀b o v,M b o=some v→w.cell? ⟨b,o,none⟩=some v)(hn:P.globalNamed name=some G):Lib.TabIs P w name k zs:=by
 obtain⟨⟨c,t,fr,h1,h2⟩,h3⟩:=h;unfold Lib.TabIs World.var?;rw[hn];simp only[qh,h1,qb];apply Array.ext_getElem?;intro i;by_cases hi:i<zs.length
 ·have hz:zs[i]?=some zs[i]:=qr hi;have:=hg _ _ _ (h3 i _ hz);unfold World.cell? at this;simp only[h1,xu,qA,zp]at this;rw[this];simp[hz]
 ·rw[Array.getElem?_eq_none (by omega),Array.getElem?_eq_none (by simp;omega)]
theorem ybd{P:Program}{G:Nat}{k:IntKind}{zs:List Int}{w:World}{name:String}(h:Lib.TabIs P w name k zs)(hn:P.globalNamed name=some G):TabAt G k zs (Qt w) w:=by
 have hc:=h;unfold Lib.TabIs World.var? at h;rw[hn]at h;simp only[qh]at h;split at h
 ·rename_i c t fr hh;simp only[qb]at h;refine⟨⟨c,t,fr,hh,by rw[h];simp⟩,fun i z hz =>?_⟩;have hi:=(qp.1 hz).1;have:=Lib.TabIs.cell hc hn i hi;rw[show zs.getD i 0=z by simp[List.getD,hz]]at this;exact this
 ·cases h
instance (priority:=low) mfOff:Mf:=⟨false⟩
@[reducible] def dz:Mf:=⟨true⟩
theorem yfe[T:wB]{P:Program}(hm:P.follows .mixedOrders=true){Zz:List (Nat×Ty)}{VG:List (Nat×Nat)}{eqs own:List Nat}{QG:List Sig}(h1:Si P Zz=true)(h2:Sc P Zz VG=true)(h3:u9 P Zz eqs=true)
  (h4:∀s∈QG,Has P s) {fn:Func} {n:Ann} {s:Sig} (hf:P.funcs[s.f]?=some fn) (he:lX P s.f=true) (jF:∀x,jU (@F3 dz Zz VG eqs own QG) fn n s.ats s.rts x=s.run x):Has P s:=
 @we T dz P hm Zz VG eqs own QG h1 h2 h3 h4 fn n s hf he jF
open Go.RowKit
variable {P:Program} [wB] {M:Mem} {w w':World}
theorem W9(hg:Good M w){g:Nat}(h:w.heap.size≤g)(o:Nat):M g o=none:=by
 cases hc:M g o with
 |none=>rfl
 |some v=>
  have:=zc w _ (hg.2 _ _ _ hc);simp only at this;omega
theorem Zu(hg:Good M w)(hb:Below w.heap.size w w'):Good M w':=by
 refine⟨wB.keep (w:=w) (Mem.le_refl M) (fun j c t fr h=>⟨c,fr,by rw[hb.block j (qd.1 h).1];exact h,rfl⟩) hg.1,fun b o v h =>?_⟩;have hc:=hg.2 b o v h;rw[za (w:=w) (hb.block b (zc w _ hc))];exact hc
theorem P0{e:Ty}{x:List e.den}{T:TypeId}{v:Value}{news:List Value}(hg:Good M w)(hb:Below w.heap.size w w')(h:w'.ownsRow w.heap.size T e.size v x.length news)
  (vq:∀i (hi:i<x.length),jB P e M x[i] ((news.drop (i*e.size)).take e.size)):
  ∃M',Good M' w'∧vm M w M' w'∧jz P (.slice e) M' x v:=by
 obtain⟨hl,h⟩:=h;rcases h with⟨rfl,h0⟩|⟨g,cap,jT,rfl,h1,h2,h3,h4,h5,h6⟩
 ·refine⟨M,Zu hg hb,⟨hb,fun _ _=>rfl⟩,?_⟩;have:x=[]:=xf.1 h0;subst this;unfold jz Qd;simp only[Ty.agg,qA,zp,jB];exact⟨_,rfl,.inl ⟨rfl,trivial⟩⟩
 ·have jL:Mem.le M (fun b o=>if b=g then news[o]? else M b o):=by
   intro b o v hv;by_cases Gm:b=g
   ·subst Gm;rw[W9 hg h1]at hv;cases hv
   ·simp only[qT Gm];exact hv
  refine⟨fun b o=>if b=g then news[o]? else M b o,⟨wB.keep (w:=w) jL (fun j c t fr h=>⟨c,fr,by rw[hb.block j (qd.1 h).1];exact h,rfl⟩) hg.1,fun b o v hv =>?_⟩,⟨hb,fun b hlt =>?_⟩,?_⟩
  ·by_cases Gm:b=g
   ·subst Gm;simp only[yp]at hv;unfold World.cell?;simp only[h2,xu,qA,zp];rw[←h6,zb]at hv;split at hv
    ·simpa using hv
    ·cases hv
   ·simp only[qT Gm]at hv;have hc:=hg.2 b o v hv;rw[za (w:=w) (hb.block b (zc w _ hc))];exact hc
  ·funext o
   exact qT (by omega)
  ·unfold jz Qd;simp only[Ty.agg,qA,zp,jB];exact⟨_,rfl,.inr (.inl ⟨g,0,cap,news,rfl,h3,hl,fun j u hj=>by simp only[yp,qY];exact hj,fun i hi=>J8 e jL _ _ (vq i hi)⟩)⟩
theorem ybx{e:Ty}{x:List e.den}{T:TypeId}{v:Value}{news:List Value}(hg:Good M w)(hb:Below w.heap.size w w')(h:w'.ownsRow w.heap.size T e.size v x.length news)
  (vq:∀i (hi:i<x.length),jB P e M x[i] ((news.drop (i*e.size)).take e.size)):
  ∃M',Good M' w'∧vm M w M' w'∧jz P (.slice e) M' x v∧(v = .slice none 0 0∨∃b n cap,v = .slice (some ⟨b,0,none⟩) n cap∧w.heap.size≤b∧zpd M' w' e.size b n cap):=by
 have h':=h;obtain⟨hl,h⟩:=h;rcases h with⟨rfl,h0⟩|⟨g,cap,jT,rfl,h1,h2,h3,h4,h5,h6⟩
 ·obtain⟨M',a,b,c⟩:=P0 (P:=P) hg hb h' vq;exact⟨M',a,b,c,.inl rfl⟩
 ·have jL:Mem.le M (fun b o=>if b=g then news[o]? else M b o):=by
   intro b o v hv;by_cases Gm:b=g
   ·subst Gm;rw[W9 hg h1]at hv;cases hv
   ·simp only[qT Gm];exact hv
  refine⟨fun b o=>if b=g then news[o]? else M b o,⟨wB.keep (w:=w) jL (fun j c t fr h=>⟨c,fr,by rw[hb.block j (qd.1 h).1];exact h,rfl⟩) hg.1,fun b o v hv =>?_⟩,⟨hb,fun b hlt =>?_⟩,?_,.inr ⟨g,x.length,cap,rfl,h1,jT,T,h2,h5,h3,h4,fun o ho =>?_⟩⟩
  ·by_cases Gm:b=g
   ·subst Gm;simp only[yp]at hv;unfold World.cell?;simp only[h2,xu,qA,zp];rw[←h6,zb]at hv;split at hv
    ·simpa using hv
    ·cases hv
   ·simp only[qT Gm]at hv;have hc:=hg.2 b o v hv;rw[za (w:=w) (hb.block b (zc w _ hc))];exact hc
  ·funext o
   exact qT (by omega)
  ·unfold jz Qd;simp only[Ty.agg,qA,zp,jB];exact⟨_,rfl,.inr (.inl ⟨g,0,cap,news,rfl,h3,hl,fun j u hj=>by simp only[yp,qY];exact hj,fun i hi=>J8 e jL _ _ (vq i hi)⟩)⟩
  ·simp only[yp];exact zD (by omega)
theorem z9n.calls{g:FuncId}{args:Array Value}{e:Ty}{l:List e.den}(h:z9n P g args M w e l):CK P g args M w fun M' v=>VC P M' [.slice e] l v:=
 yT h fun _ _ ⟨M',v,a,b,c,d,_⟩=>⟨M',v,a,d,b,c⟩
end Go.Lift
