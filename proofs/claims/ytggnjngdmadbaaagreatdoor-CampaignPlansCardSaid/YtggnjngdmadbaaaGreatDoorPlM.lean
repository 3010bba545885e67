/-
  The node after a move, and after all that can be taken (walks).
-/
import Derived.Test.YtggnjngdmadbaaaGreatDoorPlF
import Derived.Test.YtggnjngdmadbaaaGreatDoorYaO
import Derived.Test.YtggnjngdmadbaaaGreatDoorLiftQ
set_option maxRecDepth 100000
set_option maxHeartbeats 2000000
set_option linter.all false
namespace Go.Proofs
def Tryz.laysSlE041_f176_ren:Go.Shelf.Ren:=⟨fun|41=>176|n=>n,fun|22=>110|23=>63|4=>4|n=>n,fun|n=>n⟩
theorem Tryz.laysSlE041_f176:Go.Proofs.SlLaysE0.n41 Tryz.prog Tryz.laysSlE041_f176_ren:={
 mixed:=by kernel_rfl
 f41:=⟨Tryz.f176.name,by decide,Tryz.func176.trans (congrArg some (by kernel_rfl))⟩
 t4:=xz
 a4:=ky
 z4:=km
 v4:=xM
 t22:=Tryz.underlying110
 a22:=Tryz.isAgg110
 z22:=Tryz.sizeOf110
 v22:=Tryz.zeroValue110}
end Go.Proofs
namespace Go.Lift
open Go Go.Proofs Go.RowKit Go.Shelf
attribute [local go_sem] Oper.semAt_some
abbrev V4:Ty :=.slice wP
theorem ye4:fits Tryz.prog wP (.inl 63)=true:=by kernel_rfl
def gE(M:Mem)(jV:List Z0)(news:List Value):Prop:=news.length=jV.length*2∧∀i (hi:i<jV.length),jB Tryz.prog wP M jV[i] ((news.drop (i*2)).take 2)
theorem ycz{M:Mem}{w:World}{jV:List Z0}{mv:Value}(hg:Good M w)(h:jz Tryz.prog V4 M jV mv)(hl:jV.length≤1000000):∃news,gE M jV news∧(∀u∈news,u.oneCell'=true)∧
  ∀W,Below w.heap.size w W→Calls Tryz.prog 176 #[mv] W fun e W'=>∃v',e = .returned v'∧W'.ownsRow W.heap.size 63 2 v' jV.length news∧Below W.heap.size W W':=by
 obtain⟨i0,d0,Qh⟩:=Qx ye4;obtain⟨z,hz,Z4,_⟩:=Qh.zero (by rfl);have HD:=Qh.bytes;have Ko:z.cells.size=2:=by have:=Qp wP M _ _ (Z4 M);simpa [Ty.size]using this
 obtain⟨v',h1,h2⟩:jB Tryz.prog V4 M jV [mv]:=h;simp only[qM,zA]at h1;subst h1;have key:∀(a:Addr) (cap:Nat) (news:List Value),gE M jV news→(∀j u,news[j]?=some u→w.cell? (a.add j)=some u∧a.block<w.heap.size)→(∀u∈news,u.oneCell'=true)→∀W,Below w.heap.size w W→Calls Tryz.prog 176 #[.slice (some a) jV.length cap] W fun e W'=>∃v',e = .returned v'∧W'.ownsRow W.heap.size 63 2 v' jV.length news∧Below W.heap.size W W':=fun a cap news hn hc h1 W hW=>by
  refine Go.Proofs.clone_at Tryz.laysSlE041_f176 i0 z 2 i0.bytes Qh.info hz Qh.size rfl Ko (by decide) (fun w=>Kj Qh w) a jV.length cap news W hn.1 (by unfold maxLen;omega) ?_ (fun j u hj =>?_) h1
  ·have:jV.length*i0.bytes≤1000000*i0.bytes:=q9 _ hl;omega
  ·obtain⟨q1,q2⟩:=hc j u hj;refine(za ?_).trans q1;have:(a.add j).block=a.block:=by unfold Addr.add;split<;>rfl
   rw[this];exact hW.block _ q2
 have one:∀news:List Value,gE M jV news→∀u∈news,u.oneCell'=true:=fun news hn u hu=>by
  obtain⟨j,hj,rfl⟩:=kH hu;have hi:j / 2<jV.length:=by have:=hn.1;omega
  have hm:=Nat.mod_add_div j 2;refine Ao wP _ _ (hn.2 _ hi) _ (xc.2 ⟨j%2,?_⟩);rw[zb,qH (by omega),zd,show j / 2*2+j%2=j by omega,qr hj]
 rcases h2 with⟨rfl,rfl⟩|⟨b,off,cap,cells,rfl,h2,h3,h4,h5⟩|⟨a,cap,rfl,rfl⟩
 ·refine⟨[],⟨rfl,(fun i hi=>by cases hi)⟩,(fun u hu=>by cases hu),fun W hW=>yT (AnyE.slices_Clone_nil Tryz.laysSlE041_f176 0 0 W) fun e W' he =>?_⟩;obtain⟨rfl,rfl⟩:=he;exact⟨_,rfl,⟨rfl,.inl ⟨rfl,rfl⟩⟩,qN _ _⟩
 ·have hn:gE M jV cells:=⟨h3,h5⟩
  refine⟨cells,hn,one _ hn,key ⟨b,off,none⟩ cap cells hn (fun j u hj =>?_) (one _ hn)⟩;have:=hg.2 _ _ _ (h4 j u hj);rw[Addr.add_mk];exact⟨this,zc w ⟨b,off+j,none⟩ this⟩
 ·have hn:gE M [] []:=⟨rfl,fun i hi=>by cases hi⟩
  exact⟨[],hn,(fun u hu=>by cases hu),key a cap [] hn (fun j u hj=>by simp at hj) (fun u hu=>by cases hu)⟩
end Go.Lift
namespace Go.Lift
open Go Go.Proofs Go.RowKit Go.Shelf
attribute [local go_sem] Oper.semAt_some
theorem gP{M:Mem}{n:wC}{v:Value}(h:jz Tryz.prog Zk M n v):∃yv lv mv,v = .agg #[yv,lv,mv,.int .i64 n.2.2.2]∧jz Tryz.prog YP M n.1 yv∧jz Tryz.prog Zc M n.2.1 lv∧jz Tryz.prog V4 M n.2.2.1 mv:=by
 obtain⟨cs,rfl,h1⟩:∃cs:Array Value,v = .agg cs∧jB Tryz.prog Zk M n cs.toList:=h
 have hl:=Qp Zk M n _ h1;obtain⟨l⟩:=cs;match l,hl,h1 with
 |[a,b,c,d],_,⟨h1,h2,h3,h4⟩=>
  have h4':[d]=[Value.int .i64 n.2.2.2]:=h4;simp only[qM,zA]at h4';subst h4';exact⟨a,b,c,rfl,h1,h2,h3⟩
theorem mF{M:Mem}{n:wC}{yv lv mv:Value}(h1:jz Tryz.prog YP M n.1 yv)(h2:jz Tryz.prog Zc M n.2.1 lv)(h3:jz Tryz.prog V4 M n.2.2.1 mv):jz Tryz.prog Zk M n (.agg #[yv,lv,mv,.int .i64 n.2.2.2]):=
 ⟨_,rfl,h1,h2,h3,rfl⟩
def ga(B b2:Nat)(y:List (List js))(news:List Value)(k n1:Nat)(m:Int×Int)(yv lv mv:Value)(wk:Int):Nat→Value→World→Prop
 |0,v,_=>v = .pointer (some ⟨b2,0,none⟩)
 |1,v,_=>v=yv
 |2,v,W=>∃rvs,z18 W B v y rvs
 |3,v,_=>v = .pointer (some ⟨b2,1,none⟩)
 |4,v,_=>v=lv
 |5,v,_=>v = .pointer (some ⟨b2,2,none⟩)
 |6,v,_=>v=mv
 |7,v,W=>W.ownsRow B 63 2 v n1 news
 |8,v,_=>v = .agg #[.int .i64 m.1,.int .i64 m.2]
 |9,v,W=>∃g,v = .slice (some ⟨g,0,none⟩) 1 1∧W.heap[g]?=some (.cells #[.int .i64 m.1,.int .i64 m.2] 63 (0,0))∧k≤g
 |10,v,W=>W.ownsRow B 63 2 v (n1+1) (news++[.int .i64 m.1,.int .i64 m.2])
 |11,v,_=>v = .pointer (some ⟨b2,3,none⟩)
 |12,v,_=>v = .int .i64 wk
 |13,v,W=>∃v2 Bh rvs,v = .agg #[v2,lv,Bh,.int .i64 wk]∧z18 W B v2 y rvs∧W.ownsRow B 63 2 Bh (n1+1) (news++[.int .i64 m.1,.int .i64 m.2])
 |14,v,W=>∃g,v = .pointer (some ⟨g,0,none⟩)∧B≤g∧W.heap[g]?=some (.cells #[.slice none 0 0,.slice none 0 0,.slice none 0 0,.int .i64 0] 184 (0,0))
 |_,_,_=>True
theorem yga{B b2 k n1:Nat}{y:List (List js)}{news:List Value}{m:Int×Int}{yv lv mv:Value}{wk:Int}(j:Nat)(u:Value)(w w':World)(hb:Below w.heap.size w w')(h:ga B b2 y news k n1 m yv lv mv wk j u w):ga B b2 y news k n1 m yv lv mv wk j u w':=by
 have ju:∀x:Value,x.ownBlock=none∨x.ownBlock≠none:=fun x=>by cases x.ownBlock<;>simp
 match j,h with
 |0,h=>exact h
 |1,h=>exact h
 |2,⟨rvs,h⟩=>exact⟨rvs,h.kept (vA hb)⟩
 |3,h=>exact h
 |4,h=>exact h
 |5,h=>exact h
 |6,h=>exact h
 |7,h=>exact World.ownsRow.kept h (vA hb) (ju u)
 |8,h=>exact h
 |9,⟨g,h1,h2,h3⟩=>exact⟨g,h1,(hb.block g (qd.1 h2).1).trans h2,h3⟩
 |10,h=>exact World.ownsRow.kept h (vA hb) (ju u)
 |11,h=>exact h
 |12,h=>exact h
 |13,⟨v2,Bh,rvs,h1,h2,h3⟩=>exact⟨v2,Bh,rvs,h1,h2.kept (vA hb),h3.kept (vA hb) (ju Bh)⟩
 |14,⟨g,h1,h2,h3⟩=>exact⟨g,h1,h2,(hb.block g (qd.1 h3).1).trans h3⟩
 |_+15,_=>trivial
def Lb:Nat→Option Nat
 |7=>some 10
 |9=>some 10
 |_=>none
theorem ydx{α:Type}:∀l:List α,l.length=36→∃x0 x1 x2 x3 x4 x5 x6 x7 x8 x9 QO Q7 Zv ZM Yq YC Yp Yo Yn Ym YB YA Yz Z2 YS YR YQ XT XS XR XQ XP XO XN XM XL,l=x0::x1::x2::x3::x4::x5::x6::x7::x8::x9::QO::Q7::Zv::ZM::Yq::YC::Yp::Yo::Yn::Ym::YB::YA::Yz::Z2::YS::YR::YQ::XT::XS::XR::XQ::XP::XO::XN::XM::XL::[]
 |x0::x1::x2::x3::x4::x5::x6::x7::x8::x9::QO::Q7::Zv::ZM::Yq::YC::Yp::Yo::Yn::Ym::YB::YA::Yz::Z2::YS::YR::YQ::XT::XS::XR::XQ::XP::XO::XN::XM::XL::[],_=>⟨_,_,_,_,_,_,_,_,_,_,_,_,_,_,_,_,_,_,_,_,_,_,_,_,_,_,_,_,_,_,_,_,_,_,_,_,rfl⟩
theorem Nd:Tryz.prog.underlying 110=some (.slice 63):=by kernel_rfl
theorem z18.grown{w w':World}{base:Nat}{v:Value}{ys:List (List js)}{rvs:List Value}{row:Option Nat}(h:z18 w base v ys rvs)(hg:w.grownBy w' row)(h1:v.ownBlock=none∨v.ownBlock≠row)(h2:∀(r:Value) (m:Nat) (cs:List Value),w.ownsRow base 9 1 r m cs→r.ownBlock=none∨r.ownBlock≠row):z18 w' base v ys rvs:=
 ⟨h.outer.kept hg h1,fun j y hy=>(h.rows j y hy).imp fun r hr=>⟨hr.1,hr.2.kept hg (h2 r _ _ hr.2)⟩,h.apart⟩
theorem bJ{W:World}{g B e s m:Nat}{jT:Array Value}{E:TypeId}{r:Value}{cs:List Value}(hg:W.heap[g]?=some (.cells jT E (0,0)))(he:e≠E)(hr:W.ownsRow B e s r m cs):r.ownBlock=none∨r.ownBlock≠some g:=by
 rcases hr.2 with⟨rfl,_⟩|⟨g0,F5,F4,rfl,_,e1,_⟩
 ·exact .inl rfl
 ·refine .inr fun e2 =>?_
  simp only[Value.ownBlock,qb]at e2;subst e2;rw[hg]at e1;simp only[qb,xV]at e1;exact he e1.2.1.symm
theorem z18.apart184{W W':World}{B g:Nat}{jT:Array Value}{v:Value}{ys:List (List js)}{rvs:List Value}(h:z18 W B v ys rvs)(hg:W.heap[g]?=some (.cells jT 184 (0,0)))(hw:W.grownBy W' (some g)):z18 W' B v ys rvs:=
 h.grown hw (bJ hg (by decide) h.outer) fun r m cs hr=>bJ hg (by decide) hr
theorem y0n{M:Mem}{l:List js}{la:Option Addr}{lc:Nat}(h:jz Tryz.prog Zc M l (.slice la l.length lc))(hl:0<l.length):(lc=1→jz Tryz.prog Zc M l.tail (.slice la (l.length-1) 0))∧jz Tryz.prog Zc M l.tail (.slice (Option.map (fun x=>⟨x.block,x.off+1,none⟩) la) (l.length-1) (lc-1)):=by
 obtain⟨v',h1,h2⟩:jB Tryz.prog Zc M l [_]:=h;simp only[qM,zA]at h1;subst h1;rcases h2 with⟨_,rfl⟩|⟨b,off,cap,cells,e,h2,h3,h4,h5⟩|⟨a,cap,_,rfl⟩
 ·cases hl
 ·simp only[xb]at e;obtain⟨rfl,_,rfl⟩:=e;refine⟨fun e=>⟨_,rfl,.inr (.inr ⟨⟨b,off,none⟩,0,?_,?_⟩)⟩,⟨_,rfl,.inr (.inl ⟨b,off+1,lc-1,cells.drop 1,?_,?_,?_,?_,?_⟩)⟩⟩
  ·rw[show l.length-1=0 by omega]
  ·exact zn (by rw[kB];omega)
  ·rw[kB];rfl
  ·rw[kB];omega
  ·rw[zT,kB,h3];simp[Ty.size]
  ·intro j u hj;rw[zd]at hj;have:=h4 (1+j) u hj;rwa [show off+(1+j)=off+1+j by omega]at this
  ·intro i hi;rw[kB]at hi;have:=h5 (i+1) (by omega);rw[xk];rw[List.getElem_tail];have e:1+i*Ty.str.size=(i+1)*Ty.str.size:=by show 1+i*1=(i+1)*1;omega
   rw[e];exact this
 ·cases hl
theorem y9f{M M':Mem}{W:World}{B n1:Nat}{jV:List Z0}{news:List Value}{m:Z0}{v:Value}(hm:gE M jV news)(jL:Mem.le M M')(hM':M'=J7 B M W)(h:W.ownsRow B 63 2 v (jV.length+1) (news++[.int .i64 m.1,.int .i64 m.2])):jz Tryz.prog V4 M' (jV++[m]) v:=by
 subst hM';refine⟨v,rfl,?_⟩;rcases h.2 with⟨_,h2⟩|⟨g,cap,jT,h1,hb,hg,ak,_⟩
 ·omega
 ·subst h1;obtain⟨h3,h4⟩:=PZ (M:=M) h;refine .inr (.inl ⟨g,0,cap,news++[.int .i64 m.1,.int .i64 m.2],by rw[qe,qj],by rw[qe,qj];exact h4,?_,h3,fun i hi =>?_⟩)
  ·rw[h.1,qe,qj];rfl
  ·rw[qe,qj]at hi;show jB Tryz.prog wP _ _ (((news++[Value.int .i64 m.1,Value.int .i64 m.2]).drop (i*2)).take 2);by_cases hlt:i<jV.length
   ·have h5:=hm.2 i hlt;have hl:=hm.1;rw[kd hlt,xF (by omega),y9 (by rw[zT];omega)];exact J8 wP jL _ _ h5
   ·have Fi:i=jV.length:=by omega
    subst Fi;have hl:=hm.1;rw[xR (ql _),jg,xl (by omega),show jV.length*2-news.length=0 by omega];simp only[yV,kj,yz,qP];exact⟨rfl,rfl⟩
theorem PP:fits Tryz.prog Zk (.inl 184)=true:=by kernel_rfl
theorem y5x{M:Mem}{tmps:Array Value}{W:World}{h:Nat}{cs:Array Value}{n:wC}(h2:tmps.getD 4 undef = .pointer (some ⟨h,0,none⟩))(hb:W.heap[h]?=some (.cells cs 184 (0,0)))(hr:jB Tryz.prog Zk M n cs.toList):
  (Go.results Tryz.f131 tmps).run Tryz.prog W = .ok (.agg cs) W:=by
 obtain⟨i,d,hi⟩:=Qx PP;have hl:(loadVar 184 ⟨h,0,none⟩).run Tryz.prog W = .ok (KY Zk cs.toList) W:=bL hi hr (fun j u hj=>by
  rw[qY];exact va hb (by simpa using hj))
 have Vf:Tryz.f131.results=#[.cell 4 184]:=by kernel_rfl
 have ho:KY Zk cs.toList = .agg cs:=rfl;rw[ho]at hl;simp only[Go.results,Vf,qy,xa,xm,xE,h2,asAddr,qD,qt,hl,xX];rfl
theorem iA{w:World}{g off:Nat}{jT:Array Value}{E:TypeId}{v:Value}(h:w.heap[g]?=some (.cells jT E (0,0))):(w.setCell ⟨g,off,none⟩ v).heap[g]?=some (.cells (jT.setIfInBounds off v) E (0,0)):=by
 simp[World.setCell,zL,h]
theorem bQ{w:World}{g off:Nat}{v:Value}:w.grownBy (w.setCell ⟨g,off,none⟩ v) (some g):=
 ⟨rfl,rfl,rfl,by simp[World.setCell],fun k _ hk=>by
  have:g≠k:=fun e=>hk (by rw[e])
  simp[World.setCell,zL,this]⟩
theorem E3{w:World}{g:Nat}{a0 a1 a2 a3 v0 v1 v2 v3:Value}{E:TypeId}(h:w.heap[g]?=some (.cells #[a0,a1,a2,a3] E (0,0))):
  ((((w.setCell ⟨g,0,none⟩ v0).setCell ⟨g,1,none⟩ v1).setCell ⟨g,2,none⟩ v2).setCell ⟨g,3,none⟩ v3).heap[g]?=some (.cells #[v0,v1,v2,v3] E (0,0))∧w.grownBy ((((w.setCell ⟨g,0,none⟩ v0).setCell ⟨g,1,none⟩ v1).setCell ⟨g,2,none⟩ v2).setCell ⟨g,3,none⟩ v3) (some g):=
 ⟨iA (iA (iA (iA h))),((bQ.trans bQ).trans bQ).trans bQ⟩
theorem y6e{M:Mem}{w:World}(hg:Good M w){n:wC}{m:Z0}{yv lv mv:Value}{ns:List (List js)}(hy:jz Tryz.prog YP M n.1 yv)(hl:jz Tryz.prog Zc M n.2.1 lv)(KP:jz Tryz.prog V4 M n.2.2.1 mv)(jP:gz n m=true)(hn:V7 n.1 m=some ns):
  Calls Tryz.prog 131 #[.agg #[yv,lv,mv,.int .i64 n.2.2.2],.agg #[.int .i64 m.1,.int .i64 m.2]] w fun e w'=>∃M' u,e = .returned u∧jz Tryz.prog Zk M' (ns,bif m.2 == -1 then n.2.1.drop 1 else n.2.1,n.2.2.1++[m],bif m.2 == -1 then n.2.2.2 else jv (n.2.2.2+1)) u∧Good M' w'∧vm M w M' w':=by
 obtain⟨w1,v6⟩:∃w1,w.alloc (.cells #[yv,lv,mv,.int .i64 n.2.2.2] 184)=w1:=⟨_,rfl⟩
 obtain⟨w2,Yc⟩:∃w2,w1.alloc (.cells #[.int .i64 m.1,.int .i64 m.2] 63)=w2:=⟨_,rfl⟩
 obtain⟨w3,YT⟩:∃w3,w2.alloc (.cells #[.slice none 0 0,.slice none 0 0,.slice none 0 0,.int .i64 0] 184)=w3:=⟨_,rfl⟩
 have z1:w1.heap.size=w.heap.size+1:=by rw[←v6,qQ]
 have z2:w2.heap.size=w.heap.size+2:=by rw[←Yc,qQ,z1]
 have z3:w3.heap.size=w.heap.size+3:=by rw[←YT,qQ,z2]
 have HF:Below w.heap.size w w3:=by
  rw[←YT,←Yc,←v6];exact(((qN _ w).alloc (ql _) _).alloc (by rw[qQ];omega) _).alloc (by rw[qQ,qQ];omega) _
 have QS:Good M w3:=Zu hg HF;have c1:w3.heap[w.heap.size]?=some (.cells #[yv,lv,mv,.int .i64 n.2.2.2] 184 (0,0)):=by
  rw[←YT,WL w2 _ _ (by omega),←Yc,WL w1 _ _ (by omega),←v6];exact qz w _
 have c2:w3.heap[w.heap.size+1]?=some (.cells #[.int .i64 m.1,.int .i64 m.2] 63 (0,0)):=by
  rw[←YT,WL w2 _ _ (by omega),←Yc,←z1];exact qz w1 _
 have c3:w3.heap[w.heap.size+2]?=some (.cells #[.slice none 0 0,.slice none 0 0,.slice none 0 0,.int .i64 0] 184 (0,0)):=by
  rw[←YT,←z2];exact qz w2 _
 have cell:∀(W:World),Below w3.heap.size w3 W→W.heap[w.heap.size]?=some (.cells #[yv,lv,mv,.int .i64 n.2.2.2] 184 (0,0))∧W.heap[w.heap.size+1]?=some (.cells #[.int .i64 m.1,.int .i64 m.2] 63 (0,0)):=fun W hW=>⟨(hW.block _ (by omega)).trans c1,(hW.block _ (by omega)).trans c2⟩
 unfold gz at jP;simp only[qg,qI]at jP;obtain⟨⟨⟨⟨⟨⟨o1,o2⟩,o3⟩,o4⟩,o5⟩,o6⟩,o7⟩:=jP;have hW:Vo n.1=true:=by
  unfold Vo;rw[o6,Bool.and_true];exact jJ o5
 obtain⟨A2,Hz⟩:=bH hW;obtain⟨b,off,cap,rfl,wJ⟩:=tz hy (by omega);obtain⟨la,lc,rfl⟩:=br hl;obtain⟨news,BC,Gb,sk⟩:=ycz QS (ZZ (Mem.le_refl _) KP) o7;have so:∀W,Below w3.heap.size w3 W→Calls Tryz.prog 148 #[.slice (some ⟨b,off,none⟩) n.1.length cap] W fun e W'=>∃v rvs,e = .returned v∧z18 W' w3.heap.size v n.1 rvs∧Below W.heap.size W W':=fun W hW=>by
  refine(yd0 (Zu QS hW) A2 (fun j q hj =>?_)).mono fun e W' =>?_
  ·obtain⟨r,q1,q2⟩:=wJ j q hj;exact⟨r,(Zu QS hW).2 _ _ _ q1,q2,by have:=Hz q (qK hj);omega⟩
  ·rintro⟨v,rvs,h1,h2,h3⟩;exact⟨v,rvs,h1,h2.base hW.size,h3⟩
 obtain⟨i0,d0,Qh⟩:=Qx ye4;obtain⟨z,hz,Z4,_⟩:=Qh.zero (by rfl);have HD:=Qh.bytes;have Ko:z.cells.size=2:=by have:=Qp wP M _ _ (Z4 M);simpa [Ty.size]using this
 go_enter Tryz.func131,Tryz.ntmps131
 go_wp2
 refine y5f (by kernel_rfl) (c:=15) (by kernel_rfl) (by kernel_rfl) rfl rfl (by kernel_rfl) (ga w3.heap.size w.heap.size n.1 news w3.heap.size n.2.2.1.length m (.slice (some ⟨b,off,none⟩) n.1.length cap) (.slice la n.2.1.length lc) mv n.2.2.2) Lb (fun W=>Below w3.heap.size w3 W) (fun _=>True) 0 ⟨rfl,rfl,rfl,ql _,fun _ _=>rfl⟩ trivial (fun _ _ _ _=>trivial) (bh (by kernel_rfl)) (fun W W' hb h=>h.trans ⟨hb.os,hb.tape,hb.output,hb.size,fun j hj=>hb.block j (qV hj h.size)⟩) (fun j u W W'=>yga j u W W') ?step ?fin
 case step=>
  intro k o hk ho a W hJ hs hd WQ hS _;obtain⟨⟨l⟩,df⟩:=a;simp only at hd;subst hd;obtain⟨x0,x1,x2,x3,x4,x5,x6,x7,x8,x9,QO,Q7,Zv,ZM,Yq,YC,Yp,Yo,Yn,Ym,YB,YA,Yz,Z2,YS,YR,YQ,XT,XS,XR,XQ,XP,XO,XN,XM,XL,rfl⟩:=ydx l hs
  ·skip
   have e2:x2 = .pointer (some ⟨w.heap.size,0,none⟩):=WQ 2 (by decide);have e3:x3 = .pointer (some ⟨w.heap.size+1,0,none⟩):=WQ 3 (by decide);subst e2 e3;obtain⟨d1,d2⟩:=cell W hJ;have k0:W.cell? ⟨w.heap.size,0,none⟩=some (.slice (some ⟨b,off,none⟩) n.1.length cap):=va d1 rfl;have k1:W.cell? ⟨w.heap.size,1,none⟩=some (.slice la n.2.1.length lc):=va d1 rfl;have k2:W.cell? ⟨w.heap.size,2,none⟩=some mv:=va d1 rfl;have k3:W.cell? ⟨w.heap.size,3,none⟩=some (.int .i64 n.2.2.2):=va d1 rfl;have k4:W.cell? ⟨w.heap.size+1,0,none⟩=some (.int .i64 m.1):=va d2 rfl;have k5:W.cell? ⟨w.heap.size+1,1,none⟩=some (.int .i64 m.2):=va d2 rfl;match k,hk,ho with
   |0,_,ho=>
    cases ho;refine yq rfl fun K' hK =>?_
    go_simp;exact hK _ _ ⟨_,rfl,fun _=>rfl,.inl (qN _ _)⟩
   |1,_,ho=>
    cases ho;have e:x6=_:=hS 0 _ 6 rfl rfl rfl (.inl rfl);subst e;refine yq rfl fun K' hK =>?_
    go_simp;exact hK _ _ ⟨_,rfl,fun _=>rfl,.inl (qN _ _)⟩
   |2,_,ho=>
    cases ho;have e:x7=_:=hS 1 _ 7 rfl rfl rfl (.inl rfl);subst e;refine yq rfl fun K' hK =>?_
    go_simp;go_wp2_with (go_at_call 148;refine(so W hJ).mono ?_;rintro e W' ⟨v,rvs,rfl,hY,hb⟩)
    exact⟨_,rfl,fun _=>⟨rvs,hY⟩,.inl hb⟩
   |3,_,ho=>
    cases ho;refine yq rfl fun K' hK =>?_
    go_simp;exact hK _ _ ⟨_,rfl,fun _=>rfl,.inl (qN _ _)⟩
   |4,_,ho=>
    cases ho;have e:x9=_:=hS 3 _ 9 rfl rfl rfl (.inl rfl);subst e;refine yq rfl fun K' hK =>?_
    go_simp;exact hK _ _ ⟨_,rfl,fun _=>rfl,.inl (qN _ _)⟩
   |5,_,ho=>
    cases ho;refine yq rfl fun K' hK =>?_
    go_simp;exact hK _ _ ⟨_,rfl,fun _=>rfl,.inl (qN _ _)⟩
   |6,_,ho=>
    cases ho;have e:Q7=_:=hS 5 _ 11 rfl rfl rfl (.inl rfl);subst e;refine yq rfl fun K' hK =>?_
    go_simp;exact hK _ _ ⟨_,rfl,fun _=>rfl,.inl (qN _ _)⟩
   |7,_,ho=>
    cases ho;have e:Zv=_:=hS 6 _ 12 rfl rfl rfl (.inl rfl);subst e;refine yq rfl fun K' hK =>?_
    go_simp;go_wp2_with (go_at_call 176;refine(sk W hJ).mono ?_;rintro e W' ⟨v,rfl,hv,hb⟩)
    exact⟨_,rfl,fun _=>gQ hv hJ.size,.inl hb⟩
   |8,_,ho=>
    cases ho;refine yq rfl fun K' hK =>?_
    go_simp;exact hK _ _ ⟨_,rfl,fun _=>rfl,.inl (qN _ _)⟩
   |9,_,ho=>
    cases ho;have e:Yq=_:=hS 8 _ 14 rfl rfl rfl (.inl rfl);subst e;refine yq rfl fun K' hK =>?_
    go_simp;exact hK _ _ ⟨_,rfl,fun _=>⟨W.heap.size,rfl,qz W _,hJ.size⟩,.inl ((qN _ _).alloc (ql _) _)⟩
   |10,_,ho=>
    cases ho;have sq:W.ownsRow w3.heap.size 63 2 ZM n.2.2.1.length news:=hS 7 _ 13 rfl rfl rfl (.inr rfl);obtain⟨g,e,Fj,_⟩:∃g,YC = .slice (some ⟨g,0,none⟩) 1 1∧W.heap[g]?=some (.cells #[.int .i64 m.1,.int .i64 m.2] 63 (0,0))∧w3.heap.size≤g:=hS 9 _ 15 rfl rfl rfl (.inr rfl)
    subst e;obtain⟨v',W',jF,q1,q2,q3,q4⟩:=je (P:=Tryz.prog) W w3.heap.size 110 110 63 i0 z 2 i0.bytes Nd Qh.info hz Qh.size rfl Ko (by decide) ZM n.2.2.1.length news sq ⟨g,0,none⟩ 1 1 [.int .i64 m.1,.int .i64 m.2] rfl (fun j u hj=>by
     rw[Addr.add_mk,qY];match j,hj with
     |0,hj=>exact(va Fj rfl).trans hj
     |1,hj=>exact(va Fj rfl).trans hj
     |_+2,hj=>simp at hj) (by intro u hu;simp only[qF,yb,ka]at hu;rcases hu with rfl|rfl<;>rfl) (by unfold maxLen;omega) (by
     have:=xG (show n.2.2.1.length+1≤1000001 by omega) HD;omega) hJ.size
    refine yq rfl fun K' hK=>ut rfl (.tmp 13) (.tmp 15) 110 rfl ZM (.slice (some ⟨g,0,none⟩) 1 1) v' rfl rfl jF (hK _ _ ⟨v',rfl,fun _=>q1,.inr ⟨?_,fun _ _=>trivial,fun j oj u hj Ox et hj3 hs =>?_⟩⟩)
    ·refine hJ.grown q2 hJ.size fun k hk =>?_
     exact(sq.lt k hk).1
    ·have kY:∀(u:Value) (rvs:List Value),z18 W w3.heap.size u n.1 rvs→z18 W' w3.heap.size u n.1 rvs:=fun u rvs hY=>hY.grown q2 (bK sq hY.outer (by decide)) fun r m cs hr=>bK sq hr (by decide)
     match j,hj,Ox,et,hj3,hs with
     |0,_,_,_,_,hs=>exact hs
     |1,_,_,_,_,hs=>exact hs
     |2,_,_,_,_,⟨rvs,hY⟩=>exact⟨rvs,kY _ _ hY⟩
     |3,_,_,_,_,hs=>exact hs
     |4,_,_,_,_,hs=>exact hs
     |5,_,_,_,_,hs=>exact hs
     |6,_,_,_,_,hs=>exact hs
     |7,_,_,h2,_,_=>exact absurd rfl h2
     |8,_,_,_,_,hs=>exact hs
     |9,_,_,h2,_,_=>exact absurd rfl h2
     |10,_,h1,_,_,_=>exact absurd rfl h1
     |11,_,_,_,_,hs=>exact hs
     |12,_,_,_,_,hs=>exact hs
     |13,hj,_,_,h3,_=>cases hj;exact absurd h3 (by decide)
     |14,_,_,_,_,⟨g',a1,a2,a3⟩=>
      refine⟨g',a1,a2,(q2.block g' (qd.1 a3).1 fun e =>?_).trans a3⟩;rcases sq.2 with⟨e0,_⟩|⟨g0,F5,F4,e0,_,e1,_⟩
      ·rw[e0]at e;cases e
      ·rw[e0]at e;simp only[Value.ownBlock,qb]at e;rw[e]at a3;rw[a3]at e1;simp at e1
     |_+15,_,_,_,_,_=>trivial
   |11,_,ho=>
    cases ho;refine yq rfl fun K' hK =>?_
    go_simp;exact hK _ _ ⟨_,rfl,fun _=>rfl,.inl (qN _ _)⟩
   |12,_,ho=>
    cases ho;have e:Yo=_:=hS 11 _ 17 rfl rfl rfl (.inl rfl);subst e;refine yq rfl fun K' hK =>?_
    go_simp;exact hK _ _ ⟨_,rfl,fun _=>rfl,.inl (qN _ _)⟩
   |13,_,ho=>
    cases ho;obtain⟨rvs,hY⟩:∃rvs,z18 W w3.heap.size x8 n.1 rvs:=hS 2 _ 8 rfl rfl rfl (.inl rfl)
    have e:QO=_:=hS 4 _ 10 rfl rfl rfl (.inl rfl);subst e;have h16:W.ownsRow w3.heap.size 63 2 Yp (n.2.2.1.length+1) (news++[.int .i64 m.1,.int .i64 m.2]):=hS 10 _ 16 rfl rfl rfl (.inl rfl);have e:Yn=_:=hS 12 _ 18 rfl rfl rfl (.inl rfl);subst e;obtain⟨p8,n8,c8,e8⟩:=C0 hY.outer;subst e8;obtain⟨p16,n16,c16,MK⟩:=C0 h16;subst MK;refine yq rfl fun K' hK =>?_
    go_simp;exact hK _ _ ⟨_,rfl,fun _=>⟨_,_,rvs,rfl,hY,h16⟩,.inl (qN _ _)⟩
   |14,_,ho=>
    cases ho;refine yq rfl fun K' hK =>?_
    go_simp;exact hK _ _ ⟨_,rfl,fun _=>⟨W.heap.size,rfl,hJ.size,qz W _⟩,.inl ((qN _ _).alloc (ql _) _)⟩
   |_+15,hk,_=>omega
 case fin=>
  intro a W hJ hs hd WQ hS;obtain⟨⟨l⟩,df⟩:=a;simp only at hd;subst hd;obtain⟨x0,x1,x2,x3,x4,x5,x6,x7,x8,x9,QO,Q7,Zv,ZM,Yq,YC,Yp,Yo,Yn,Ym,YB,YA,Yz,Z2,YS,YR,YQ,XT,XS,XR,XQ,XP,XO,XN,XM,XL,rfl⟩:=ydx l hs;have e2:x2 = .pointer (some ⟨w.heap.size,0,none⟩):=WQ 2 (by decide);have e3:x3 = .pointer (some ⟨w.heap.size+1,0,none⟩):=WQ 3 (by decide);have e4:x4 = .pointer (some ⟨w.heap.size+2,0,none⟩):=WQ 4 (by decide);subst e2 e3 e4;obtain⟨d1,d2⟩:=cell W hJ;have k4:W.cell? ⟨w.heap.size+1,0,none⟩=some (.int .i64 m.1):=va d2 rfl;have k5:W.cell? ⟨w.heap.size+1,1,none⟩=some (.int .i64 m.2):=va d2 rfl;obtain⟨v2,Bh,rvs,e19,hY,hM⟩:∃v2 Bh rvs,Ym = .agg #[v2,.slice la n.2.1.length lc,Bh,.int .i64 n.2.2.2]∧z18 W w3.heap.size v2 n.1 rvs∧W.ownsRow w3.heap.size 63 2 Bh (n.2.2.1.length+1) (news++[Value.int .i64 m.1,Value.int .i64 m.2]):=hS 13 _ 19 (by decide) rfl rfl rfl
  obtain⟨g,e5,hgB,Ev⟩:∃g,x5 = .pointer (some ⟨g,0,none⟩)∧w3.heap.size≤g∧W.heap[g]?=some (.cells #[.slice none 0 0,.slice none 0 0,.slice none 0 0,.int .i64 0] 184 (0,0)):=hS 14 _ 5 (by decide) rfl rfl rfl
  subst e19 e5;obtain⟨p2,n2,KA,e2⟩:=C0 hY.outer;subst e2;obtain⟨VD,KM,KU,e10⟩:=C0 hM;subst e10;have g0:W.cell? ⟨g,0,none⟩=some (.slice none 0 0):=va Ev rfl;have g1:W.cell? ⟨g,1,none⟩=some (.slice none 0 0):=va Ev rfl;have g2:W.cell? ⟨g,2,none⟩=some (.slice none 0 0):=va Ev rfl;have g3:W.cell? ⟨g,3,none⟩=some (.int .i64 0):=va Ev rfl;have gf:∀off,W.frozen? ⟨g,off,none⟩=false:=fun off=>Vs Ev
  obtain⟨W5,rP⟩:∃W5,(((W.setCell ⟨g,0,none⟩ (.slice p2 n2 KA)).setCell ⟨g,1,none⟩ (.slice la n.2.1.length lc)).setCell ⟨g,2,none⟩ (.slice VD KM KU)).setCell ⟨g,3,none⟩ (.int .i64 n.2.2.2)=W5:=⟨_,rfl⟩
  have Qf:=E3 (v0 :=.slice p2 n2 KA) (v1 :=.slice la n.2.1.length lc) (v2 :=.slice VD KM KU) (v3 :=.int .i64 n.2.2.2) Ev;rw[rP]at Qf;obtain⟨s1,s2⟩:=Qf;have DS:Below w3.heap.size w3 W5:=hJ.grown s2 hJ.size fun k hk=>by cases hk;exact hgB
  have SQ:∀(r:Value) (e:Nat) (s m:Nat) (cs:List Value),e≠184→W.ownsRow w3.heap.size e s r m cs→r.ownBlock=none∨r.ownBlock≠some g:=fun r e s m cs he hr=>by
   rcases hr.2 with⟨rfl,_⟩|⟨g0,F5,F4,rfl,_,e1,_⟩
   ·exact .inl rfl
   ·refine .inr fun e2 =>?_
    simp only[Value.ownBlock,qb]at e2;subst e2;rw[Ev]at e1;simp only[qb,xV]at e1;exact he e1.2.1.symm
  have rO:z18 W5 w3.heap.size (.slice p2 n2 KA) n.1 rvs:=hY.grown s2 (SQ _ 61 1 _ _ (by decide) hY.outer) fun r m cs hr=>SQ _ 9 1 _ _ (by decide) hr
  have Tc:W5.ownsRow w3.heap.size 63 2 (.slice VD KM KU) (n.2.2.1.length+1) (news++[.int .i64 m.1,.int .i64 m.2]):=hM.kept s2 (SQ _ 63 2 _ _ (by decide) hM);obtain⟨i,p,e1,e2,Bz⟩:=sK (l:=n.1) [] (wX (jJ o1) (jJ o2));rw[Bz]at o3;have Bx:m.2 = -1∧0<n.2.1.length∨∃(k:Nat) (q:List js),m.2=(k:Int)∧n.1[k]?=some q∧i≠k:=by
   cases hm:m.2 == -1 with
   |true=>
    rw[hm,qv,qI]at o4;exact .inl ⟨by simpa using hm,o4⟩
   |false=>
    rw[hm,qu,qg,qg,qI,qI,zP]at o4;obtain⟨k,q,f1,f2,_⟩:=sK (l:=n.1) [] (wX (jJ o4.1.1) (jJ o4.1.2));exact .inr ⟨k,q,f1,f2,fun e=>o4.2 (by rw[e1,f1,e])⟩
  have BV:=y2e rO DS.size hW e1 e2 o3 (Bx.imp And.left id) hn;have after:∀W6:World,Outside (.slice p2 n2 KA) rvs W5 W6→W6.heap[w.heap.size+1]?=some (.cells #[.int .i64 m.1,.int .i64 m.2] 63 (0,0))∧W6.heap[w.heap.size+2]?=some (.cells #[.slice none 0 0,.slice none 0 0,.slice none 0 0,.int .i64 0] 184 (0,0))∧W6.heap[g]?=some (.cells #[.slice p2 n2 KA,.slice la n.2.1.length lc,.slice VD KM KU,.int .i64 n.2.2.2] 184 (0,0))∧W6.ownsRow w3.heap.size 63 2 (.slice VD KM KU) (n.2.2.1.length+1) (news++[.int .i64 m.1,.int .i64 m.2])∧Below w3.heap.size w3 W6:=fun W6 ho=>by
   have BT:=DS.trans (uf rO DS.size ho);have AZ:∀(k e:Nat) (cs:Array Value),W5.heap[k]?=some (.cells cs e (0,0))→e≠61→e≠9→W6.heap[k]?=some (.cells cs e (0,0)):=fun k e cs hk he1 he2=>by
    refine(ho.block k (qd.1 hk).1 (fun e =>?_) fun r hr e =>?_).trans hk
    ·rcases rO.outer.2 with⟨h0,_⟩|⟨g0,F5,F4,h0,_,h1,_⟩
     ·rw[h0]at e;cases e
     ·rw[h0]at e;simp only[Value.ownBlock,qb]at e;rw[←e,hk]at h1;simp only[qb,xV]at h1;exact he1 h1.2.1
    ·obtain⟨j,hj,rfl⟩:=xh.1 hr;have pC:rvs.length=n.1.length:=by have:=rO.outer.1;omega
     obtain⟨r,h1,h2⟩:=rO.rows j n.1[j] (qr (by omega));rw[qr hj,qb]at h1;rw[←h1]at h2;rcases h2.2 with⟨h0,_⟩|⟨g0,F5,F4,h0,_,h1,_⟩
     ·rw[h0]at e;cases e
     ·rw[h0]at e;simp only[Value.ownBlock,qb]at e;rw[←e,hk]at h1;simp only[qb,xV]at h1;exact he2 h1.2.1
   refine⟨(BT.block _ (by omega)).trans c2,(BT.block _ (by omega)).trans c3,AZ g 184 _ s1 (by decide) (by decide),?_,BT⟩;refine⟨Tc.1,?_⟩;rcases Tc.2 with h0|⟨g0,F5,F4,h0,h1,h2,h3⟩
   ·exact .inl h0
   ·exact .inr ⟨g0,F5,F4,h0,h1,AZ g0 63 _ h2 (by decide) (by decide),h3⟩
  have m4:W5.cell? ⟨w.heap.size+1,0,none⟩=some (.int .i64 m.1):=va ((DS.block _ (by omega)).trans c2) rfl;have m5:W5.cell? ⟨w.heap.size+1,1,none⟩=some (.int .i64 m.2):=va ((DS.block _ (by omega)).trans c2) rfl;have m6:W5.cell? ⟨g,0,none⟩=some (.slice p2 n2 KA):=va s1 rfl;have DU:∀(W7:World) (WO:Value) (vZ:List js) (ZJ:Int) (QI:List Value),Below w.heap.size w W7→z18 W7 w3.heap.size (.slice p2 n2 KA) ns QI→W7.ownsRow w3.heap.size 63 2 (.slice VD KM KU) (n.2.2.1.length+1) (news++[.int .i64 m.1,.int .i64 m.2])→jz Tryz.prog Zc M vZ WO→
    W7.heap[w.heap.size+2]?=some (.cells #[.slice p2 n2 KA,WO,.slice VD KM KU,.int .i64 ZJ] 184 (0,0))→∃M',jz Tryz.prog Zk M' (ns,vZ,n.2.2.1++[m],ZJ) (.agg #[.slice p2 n2 KA,WO,.slice VD KM KU,.int .i64 ZJ])∧Good M' W7∧vm M w M' W7∧
    ∀tmps:Array Value,tmps.getD 4 undef = .pointer (some ⟨w.heap.size+2,0,none⟩)→(Go.results Tryz.f131 tmps).run Tryz.prog W7 = .ok (.agg #[.slice p2 n2 KA,WO,.slice VD KM KU,.int .i64 ZJ]) W7:=fun W7 WO vZ ZJ QI FY hY7 hM7 hl7 hc7=>by
   have az:Good M W7:=Zu hg FY;have jL:Mem.le M (J7 w.heap.size M W7):=L0 az;have hrel:jB Tryz.prog Zk (J7 w.heap.size M W7) (ns,vZ,n.2.2.1++[m],ZJ) [.slice p2 n2 KA,WO,.slice VD KM KU,.int .i64 ZJ]:=
    ⟨(hY7.base HF.size).rel,ZZ jL hl7,y9f (B:=w.heap.size) (W:=W7) (n1:=0) BC jL rfl (gQ hM7 HF.size),rfl⟩
   exact⟨_,⟨_,rfl,hrel⟩,Rg az,Rh FY,fun tmps ht=>y5x ht hc7 hrel⟩
  have H1:∀(W6:World) (QI:List Value) (o:Nat) (x WO:Value) (ZJ:Int) (vZ:List js),Below w3.heap.size w3 W6→z18 W6 w3.heap.size (.slice p2 n2 KA) ns QI→W6.ownsRow w3.heap.size 63 2 (.slice VD KM KU) (n.2.2.1.length+1) (news++[.int .i64 m.1,.int .i64 m.2])→jz Tryz.prog Zc M vZ WO→
    W6.heap[w.heap.size+2]?=some (.cells #[.slice none 0 0,.slice none 0 0,.slice none 0 0,.int .i64 0] 184 (0,0))→(∃cs,W6.heap[g]?=some (.cells cs 184 (0,0)))→∃M',jz Tryz.prog Zk M' (ns,vZ,n.2.2.1++[m],ZJ) (.agg #[.slice p2 n2 KA,WO,.slice VD KM KU,.int .i64 ZJ])∧
     Good M' (((((W6.setCell ⟨g,o,none⟩ x).setCell ⟨w.heap.size+2,0,none⟩ (.slice p2 n2 KA)).setCell ⟨w.heap.size+2,1,none⟩ WO).setCell ⟨w.heap.size+2,2,none⟩ (.slice VD KM KU)).setCell ⟨w.heap.size+2,3,none⟩ (.int .i64 ZJ))∧
     vm M w M' (((((W6.setCell ⟨g,o,none⟩ x).setCell ⟨w.heap.size+2,0,none⟩ (.slice p2 n2 KA)).setCell ⟨w.heap.size+2,1,none⟩ WO).setCell ⟨w.heap.size+2,2,none⟩ (.slice VD KM KU)).setCell ⟨w.heap.size+2,3,none⟩ (.int .i64 ZJ))∧
     ∀tmps:Array Value,tmps.getD 4 undef = .pointer (some ⟨w.heap.size+2,0,none⟩)→(Go.results Tryz.f131 tmps).run Tryz.prog (((((W6.setCell ⟨g,o,none⟩ x).setCell ⟨w.heap.size+2,0,none⟩ (.slice p2 n2 KA)).setCell ⟨w.heap.size+2,1,none⟩ WO).setCell ⟨w.heap.size+2,2,none⟩ (.slice VD KM KU)).setCell ⟨w.heap.size+2,3,none⟩ (.int .i64 ZJ)) = .ok (.agg #[.slice p2 n2 KA,WO,.slice VD KM KU,.int .i64 ZJ]) (((((W6.setCell ⟨g,o,none⟩ x).setCell ⟨w.heap.size+2,0,none⟩ (.slice p2 n2 KA)).setCell ⟨w.heap.size+2,1,none⟩ WO).setCell ⟨w.heap.size+2,2,none⟩ (.slice VD KM KU)).setCell ⟨w.heap.size+2,3,none⟩ (.int .i64 ZJ)):=fun W6 QI o x WO ZJ vZ BT lF hM6 Ot hc6 ⟨cs,Fk⟩=>by
   have ju:some (w.heap.size+2)≠some g:=by simp only[ne_eq,qb];omega
   obtain⟨A,hA⟩:∃A,W6.setCell ⟨g,o,none⟩ x=A:=⟨_,rfl⟩
   have gA:W6.grownBy A (some g):=by rw[←hA];exact bQ
   have yA:=lF.apart184 Fk gA;have mA:=hM6.kept gA (bJ Fk (by decide) hM6);have cA:A.heap[w.heap.size+2]?=some (.cells #[.slice none 0 0,.slice none 0 0,.slice none 0 0,.int .i64 0] 184 (0,0)):=(gA.block _ (qd.1 hc6).1 ju).trans hc6;rw[hA];obtain⟨cB,gB⟩:=E3 (v0 :=.slice p2 n2 KA) (v1:=WO) (v2 :=.slice VD KM KU) (v3 :=.int .i64 ZJ) cA;have fm:Below w.heap.size w W6:=HF.trans ⟨BT.os,BT.tape,BT.output,BT.size,fun j hj=>BT.block j (qV hj HF.size)⟩;have FY:=(fm.grown gA fm.size fun k hk=>by cases hk;omega).grown gB (by have:=fm.size;have:=gA.size;omega) fun k hk=>by cases hk;omega
   exact DU _ WO vZ ZJ QI FY (yA.apart184 cA gB) (mA.kept gB (bJ cA (by decide) mA)) Ot cB
  refine yq rfl fun K' hK =>?_
  go_simp;refine hK _ _ ?_;clear hK K';have Dy:=hl;clear DU;clear hS WQ hs hM hY SQ hJ BC Gb sk so wJ cell Ev g0 g1 g2 g3 gf d1 d2 k4 k5 Bz o1 o2 o3 o4 o5 o6 o7 hn hl KP hy;rcases Bx with⟨Gc,jH⟩|⟨k,q,Gc,hkq,Qa⟩
  ·obtain⟨m1,m2⟩:=m;simp only at Gc e1;subst Gc e1;go_wp2_with (go_at_call 102;refine BV.mono ?_;clear BV;rintro e W6 ⟨QI,rfl,lF,Mj⟩;obtain⟨a1,a2,a3,a4,a5⟩:=after W6 Mj;clear after;have b0:W6.cell? ⟨w.heap.size,1,none⟩=some (.slice la n.2.1.length lc):=va ((a5.block _ (by omega)).trans c1) rfl;have b1:W6.cell? ⟨w.heap.size+1,1,none⟩=some (.int .i64 (-1)):=va a1 rfl;have f0:W6.cell? ⟨w.heap.size+2,0,none⟩=some (.slice none 0 0):=va a2 rfl;have f1:W6.cell? ⟨w.heap.size+2,1,none⟩=some (.slice none 0 0):=va a2 rfl;have f2:W6.cell? ⟨w.heap.size+2,2,none⟩=some (.slice none 0 0):=va a2 rfl;have f3:W6.cell? ⟨w.heap.size+2,3,none⟩=some (.int .i64 0):=va a2 rfl;have cf:∀off,W6.frozen? ⟨w.heap.size+2,off,none⟩=false:=fun _=>Vs a2;have d0:W6.cell? ⟨g,0,none⟩=some (.slice p2 n2 KA):=va a3 rfl;have d1:W6.cell? ⟨g,1,none⟩=some (.slice la n.2.1.length lc):=va a3 rfl;have d2:W6.cell? ⟨g,2,none⟩=some (.slice VD KM KU):=va a3 rfl;have d3:W6.cell? ⟨g,3,none⟩=some (.int .i64 n.2.2.2):=va a3 rfl;have df:∀off,W6.frozen? ⟨g,off,none⟩=false:=fun _=>Vs a3)
   ·obtain⟨M',f1,f2,f3,f4⟩:=H1 W6 QI 1 (.slice la (n.2.1.length-1) 0) (.slice la (n.2.1.length-1) 0) n.2.2.2 n.2.1.tail a5 lF a4 ((y0n Dy jH).1 (by assumption)) a2 ⟨_,a3⟩;exact zu (f4 _ rfl) rfl ⟨M',_,rfl,f1,f2,f3⟩
   ·obtain⟨M',f1,f2,f3,f4⟩:=H1 W6 QI 1 (.slice (Option.map (fun x=>⟨x.block,x.off+1,none⟩) la) (n.2.1.length-1) (lc-1)) (.slice (Option.map (fun x=>⟨x.block,x.off+1,none⟩) la) (n.2.1.length-1) (lc-1)) n.2.2.2 n.2.1.tail a5 lF a4 (y0n Dy jH).2 a2 ⟨_,a3⟩;exact zu (f4 _ rfl) rfl ⟨M',_,rfl,f1,f2,f3⟩
  ·obtain⟨m1,m2⟩:=m;simp only at Gc e1;subst Gc e1;go_wp2_with (go_at_call 102;refine BV.mono ?_;clear BV;rintro e W6 ⟨QI,rfl,lF,Mj⟩;obtain⟨a1,a2,a3,a4,a5⟩:=after W6 Mj;clear after;have b0:W6.cell? ⟨w.heap.size,1,none⟩=some (.slice la n.2.1.length lc):=va ((a5.block _ (by omega)).trans c1) rfl;have b1:W6.cell? ⟨w.heap.size+1,1,none⟩=some (.int .i64 (k:Int)):=va a1 rfl;have f0:W6.cell? ⟨w.heap.size+2,0,none⟩=some (.slice none 0 0):=va a2 rfl;have f1:W6.cell? ⟨w.heap.size+2,1,none⟩=some (.slice none 0 0):=va a2 rfl;have f2:W6.cell? ⟨w.heap.size+2,2,none⟩=some (.slice none 0 0):=va a2 rfl;have f3:W6.cell? ⟨w.heap.size+2,3,none⟩=some (.int .i64 0):=va a2 rfl;have cf:∀off,W6.frozen? ⟨w.heap.size+2,off,none⟩=false:=fun _=>Vs a2;have d0:W6.cell? ⟨g,0,none⟩=some (.slice p2 n2 KA):=va a3 rfl;have d1:W6.cell? ⟨g,1,none⟩=some (.slice la n.2.1.length lc):=va a3 rfl;have d2:W6.cell? ⟨g,2,none⟩=some (.slice VD KM KU):=va a3 rfl;have d3:W6.cell? ⟨g,3,none⟩=some (.int .i64 n.2.2.2):=va a3 rfl;have df:∀off,W6.frozen? ⟨g,off,none⟩=false:=fun _=>Vs a3)
   obtain⟨M',f1,f2,f3,f4⟩:=H1 W6 QI 3 (.int .i64 (wrap64 (n.2.2.2+1))) (.slice la n.2.1.length lc) (wrap64 (n.2.2.2+1)) n.2.1 a5 lF a4 Dy a2 ⟨_,a3⟩;rw[show wrap64 (n.2.2.2+1)=jv (n.2.2.2+1) from(IntWalk.i64_left _).symm]at f1 f2 f3 f4⊢;exact zu (f4 _ rfl) rfl ⟨M',_,rfl,f1,f2,f3⟩
theorem C9:Has Tryz.prog uK:=by
 refine⟨enters_of (by kernel_rfl),fun x r hr M w vs hg Q3 =>?_⟩;obtain⟨v,rest,rfl,hv,u,rfl,hu⟩:=Q3;have Cs:=Lo hu;subst Cs;obtain⟨n,m⟩:=x;have Xo:Ha n m=some r:=hr;unfold Ha at Xo;cases jP:gz n m with
 |false=>rw[jP]at Xo;cases Xo
 |true=>
  rw[jP,qv]at Xo;obtain⟨ns,hn,Wj⟩:=qi.1 Xo;simp only[qb]at Wj;subst Wj;obtain⟨yv,lv,mv,rfl,h1,h2,h3⟩:=gP hv;refine(y6e hg h1 h2 h3 jP hn).mono fun e w' =>?_
  rintro⟨M',u,rfl,q1,q2,q3⟩;exact⟨M',u,rfl,q1,q2,q3⟩
end Go.Lift
namespace Go.Lift
open Go Go.Proofs Go.RowKit Go.Shelf
attribute [local go_sem] Oper.semAt_some
theorem zyq{w:World}{b off len cap i rb Bk m rc:Nat}{s:js}(hi:i<len)(hl:len≤1000)(lw:m<1000)(Yt:w.cell? ⟨b,off+i,none⟩=some (.slice (some ⟨rb,Bk,none⟩) (m+1) rc))(Vj:w.cell? ⟨rb,Bk+m,none⟩=some (.string s)):
  Calls Tryz.prog 130 #[.slice (some ⟨b,off,none⟩) len cap,.int .i64 (i:Int)] w fun e w'=>e = .returned (.string s)∧w'=w.drew:=by
 have e1:((m:Int)+1-1)=(m:Int):=by omega
 go_enter Tryz.func130,Tryz.ntmps130
 go_wp2
 go_region
 all_goals
  go_wp2
  go_ret
  exact⟨rfl,rfl⟩
theorem ydp{M:Mem}{q:List js}{r:Value}(h:jz Tryz.prog Zc M q r)(hq:0<q.length):∃b off c,r = .slice (some ⟨b,off,none⟩) q.length c∧∀j s,q[j]?=some s→M b (off+j)=some (.string s):=by
 obtain⟨v',h1,h2⟩:jB Tryz.prog Zc M q [r]:=h;simp only[qM,zA]at h1;subst h1;rcases h2 with⟨_,rfl⟩|⟨b,off,cap,cells,rfl,ZS,jH,hm,Xb⟩|⟨a,c,_,rfl⟩
 ·cases hq
 ·refine⟨b,off,cap,rfl,fun j s hj =>?_⟩;obtain⟨hlt,hs⟩:=qp.1 hj;have h3:jB Tryz.prog .str M q[j] ((cells.drop (j*1)).take 1):=Xb j hlt;have h4:(cells.drop (j*1)).take 1=[Value.string q[j]]:=h3;rw[hs,xe,List.take_one,List.head?_drop]at h4;have VQ:j<cells.length:=by rw[jH];simpa [Ty.size]using hlt
  rw[qr VQ]at h4;simp only[Option.toList_some,qM,zA]at h4;rw[←h4];exact hm j _ (qr VQ)
 ·cases hq
theorem Ka{e:Ty}{M:Mem}{x:List e.den}{v:Value}(h:jz Tryz.prog (.slice e) M x v):∃a c,v = .slice a x.length c:=by
 obtain⟨v',h1,h2⟩:jB Tryz.prog (.slice e) M x [v]:=h;simp only[qM,zA]at h1;subst h1;rcases h2 with⟨rfl,rfl⟩|⟨b,off,cap,cells,rfl,_⟩|⟨a,c,rfl,rfl⟩
 ·exact⟨_,_,rfl⟩
 ·exact⟨_,_,rfl⟩
 ·exact⟨_,_,rfl⟩
structure TSt (w:World) (M:Mem) (n:wC) (yv lv mv:Value) (M':Mem) (W:World):Prop where
 good:Good M' W
 le:Mem.le M M'
 mem:∀b,b<w.heap.size→M' b=M b
 below:Below w.heap.size w W
 b1:W.heap[w.heap.size]?=some (.cells #[yv,lv,mv,.int .i64 n.2.2.2] 184 (0,0))
 b2:W.heap[w.heap.size+1]?=some (.cells #[.slice none 0 0,.slice none 0 0,.slice none 0 0,.int .i64 0] 184 (0,0))
 m1:∀o,M' w.heap.size o=none
 m2:∀o,M' (w.heap.size+1) o=none
 hy:jz Tryz.prog YP M' n.1 yv
 hl:jz Tryz.prog Zc M' n.2.1 lv
 hm:jz Tryz.prog V4 M' n.2.2.1 mv
theorem TSt.same{w:World}{M:Mem}{n:wC}{yv lv mv:Value}{M':Mem}{W W':World}(h:TSt w M n yv lv mv M' W)(h1:W'.heap=W.heap)(h2:W'.os=W.os)(h3:W'.tape=W.tape)(h4:W'.output=W.output):TSt w M n yv lv mv M' W':=by
 have hB:Below W.heap.size W W':=⟨h2,h3,h4,by rw[h1];exact ql _,fun j _=>by rw[h1]⟩
 have hbw:=h.below.size;exact⟨Zu h.good hB,h.le,h.mem,h.below.trans ⟨h2,h3,h4,by rw[h1];exact ql _,fun j _=>by rw[h1]⟩,by rw[h1];exact h.b1,by rw[h1];exact h.b2,h.m1,h.m2,h.hy,h.hl,h.hm⟩
def AX(B:Nat)(W:World):Nat:=match W.cell? ⟨B,1,none⟩with
 |some (.slice _ n _)=>n
 |_=>0
theorem dA{α:Type}:∀l:List α,l.length=40→∃x0 x1 x2 x3 x4 x5 x6 x7 x8 x9 QO Q7 Zv ZM Yq YC Yp Yo Yn Ym YB YA Yz Z2 YS YR YQ XT XS XR XQ XP XO XN XM XL KL KK KJ KI,l=x0::x1::x2::x3::x4::x5::x6::x7::x8::x9::QO::Q7::Zv::ZM::Yq::YC::Yp::Yo::Yn::Ym::YB::YA::Yz::Z2::YS::YR::YQ::XT::XS::XR::XQ::XP::XO::XN::XM::XL::KL::KK::KJ::KI::[]
 |x0::x1::x2::x3::x4::x5::x6::x7::x8::x9::QO::Q7::Zv::ZM::Yq::YC::Yp::Yo::Yn::Ym::YB::YA::Yz::Z2::YS::YR::YQ::XT::XS::XR::XQ::XP::XO::XN::XM::XL::KL::KK::KJ::KI::[],_=>⟨_,_,_,_,_,_,_,_,_,_,_,_,_,_,_,_,_,_,_,_,_,_,_,_,_,_,_,_,_,_,_,_,_,_,_,_,_,_,_,_,rfl⟩
def MX(w:World)(M:Mem)(r:wC)(a:Act)(W:World):Prop:=∃M' n yv lv mv,a.tmps.size=40∧a.defers=[]∧a.tmps.getD 1 undef = .pointer (some ⟨w.heap.size,0,none⟩)∧a.tmps.getD 2 undef = .pointer (some ⟨w.heap.size+1,0,none⟩)∧TSt w M n yv lv mv M' W∧J4 n.2.1.length n=some r∧Vo n.1=true∧n.2.1.length≤1000
theorem TSt.put{w:World}{M:Mem}{n0 n:wC}{yv0 lv0 mv0 yv lv mv:Value}{M' M3:Mem}{W W3:World}(h:TSt w M n0 yv0 lv0 mv0 M' W)(hg:Good M3 W3)(jZ:vm M' W M3 W3)(jL:Mem.le M' M3)(h1:jz Tryz.prog YP M3 n.1 yv)(h2:jz Tryz.prog Zc M3 n.2.1 lv)(h3:jz Tryz.prog V4 M3 n.2.2.1 mv):
  TSt w M n yv lv mv M3 ((((W3.setCell ⟨w.heap.size,0,none⟩ yv).setCell ⟨w.heap.size,1,none⟩ lv).setCell ⟨w.heap.size,2,none⟩ mv).setCell ⟨w.heap.size,3,none⟩ (.int .i64 n.2.2.2)):=by
 have l1:=(qd.1 h.b1).1;have l2:=(qd.1 h.b2).1;have n1:∀o,M3 w.heap.size o=none:=fun o=>by rw[jZ.mem _ l1];exact h.m1 o
 have n2:∀o,M3 (w.heap.size+1) o=none:=fun o=>by rw[jZ.mem _ l2];exact h.m2 o
 have c1:=(jZ.below.block _ l1).trans h.b1;have c2:=(jZ.below.block _ l2).trans h.b2;obtain⟨s1,s2⟩:=E3 (v0:=yv) (v1:=lv) (v2:=mv) (v3 :=.int .i64 n.2.2.2) c1;obtain⟨a1,_,b1⟩:=X9 (off:=0) (v:=yv) hg n1 c1;obtain⟨a2,_,b2⟩:=X9 (off:=1) (v:=lv) a1 n1 b1;obtain⟨a3,_,b3⟩:=X9 (off:=2) (v:=mv) a2 n1 b2;obtain⟨a4,_,b4⟩:=X9 (off:=3) (v :=.int .i64 n.2.2.2) a3 n1 b3;have hB:Below w.heap.size w W3:=h.below.trans ⟨jZ.below.os,jZ.below.tape,jZ.below.output,jZ.below.size,fun j hj=>jZ.below.block j (qV hj h.below.size)⟩;refine⟨a4,Mem.le_trans h.le jL,fun b hb =>?_,hB.grown s2 hB.size fun k hk=>by cases hk;exact ql _,s1,(s2.block _ (by have:=jZ.below.size;omega) (by simp)).trans c2,n1,n2,h1,h2,h3⟩;rw[jZ.mem b (by have:=h.below.size;omega)];exact h.mem b hb
theorem TSt.fin{w:World}{M:Mem}{n:wC}{yv lv mv:Value}{M':Mem}{W:World}(h:TSt w M n yv lv mv M' W):
  Good M' ((((W.setCell ⟨w.heap.size+1,0,none⟩ yv).setCell ⟨w.heap.size+1,1,none⟩ lv).setCell ⟨w.heap.size+1,2,none⟩ mv).setCell ⟨w.heap.size+1,3,none⟩ (.int .i64 n.2.2.2))∧vm M w M' ((((W.setCell ⟨w.heap.size+1,0,none⟩ yv).setCell ⟨w.heap.size+1,1,none⟩ lv).setCell ⟨w.heap.size+1,2,none⟩ mv).setCell ⟨w.heap.size+1,3,none⟩ (.int .i64 n.2.2.2))∧
   ((((W.setCell ⟨w.heap.size+1,0,none⟩ yv).setCell ⟨w.heap.size+1,1,none⟩ lv).setCell ⟨w.heap.size+1,2,none⟩ mv).setCell ⟨w.heap.size+1,3,none⟩ (.int .i64 n.2.2.2)).heap[w.heap.size+1]?=some (.cells #[yv,lv,mv,.int .i64 n.2.2.2] 184 (0,0)):=by
 obtain⟨s1,s2⟩:=E3 (v0:=yv) (v1:=lv) (v2:=mv) (v3 :=.int .i64 n.2.2.2) h.b2;obtain⟨a1,_,b1⟩:=X9 (off:=0) (v:=yv) h.good h.m2 h.b2;obtain⟨a2,_,b2⟩:=X9 (off:=1) (v:=lv) a1 h.m2 b1;obtain⟨a3,_,b3⟩:=X9 (off:=2) (v:=mv) a2 h.m2 b2;obtain⟨a4,_,b4⟩:=X9 (off:=3) (v :=.int .i64 n.2.2.2) a3 h.m2 b3;exact⟨a4,⟨h.below.grown s2 h.below.size fun k hk=>by cases hk;omega,h.mem⟩,s1⟩
theorem y5v{M:Mem}{tmps:Array Value}{W:World}{h:Nat}{cs:Array Value}{n:wC}(h2:tmps.getD 2 undef = .pointer (some ⟨h,0,none⟩))(hb:W.heap[h]?=some (.cells cs 184 (0,0)))(hr:jB Tryz.prog Zk M n cs.toList):
  (Go.results Tryz.f173 tmps).run Tryz.prog W = .ok (.agg cs) W:=by
 obtain⟨i,d,hi⟩:=Qx PP;have hl:(loadVar 184 ⟨h,0,none⟩).run Tryz.prog W = .ok (KY Zk cs.toList) W:=bL hi hr (fun j u hj=>by
  rw[qY];exact va hb (by simpa using hj))
 have Vf:Tryz.f173.results=#[.cell 2 184]:=by kernel_rfl
 have ho:KY Zk cs.toList = .agg cs:=rfl;rw[ho]at hl;simp only[Go.results,Vf,qy,xa,xm,xE,h2,asAddr,qD,qt,hl,xX];rfl
theorem y5o{y:List (List js)}{x:js}{i:Nat}{p:List js}(hp:y[i]?=some p)(hP:(bif decide (0<p.length)then jO (p.getD (p.length-1) ByteArray.empty) x else false)=true)(hlt:∀j p,j<i→y[j]?=some p→(bif decide (0<p.length)then jO (p.getD (p.length-1) ByteArray.empty) x else false)=false):KD y x=some i:=by
 unfold KD;rw[yM];obtain⟨h,e⟩:=qp.1 hp;refine⟨h,by rw[e];exact hP,fun j hj =>?_⟩;rw[hlt j _ hj (qr (by omega))];simp
theorem y7x{n:wC}(h:∀x,n.2.1.head?=some x→∀(j:Nat) (p:List js),n.1[j]?=some p→(bif decide (0<p.length)then jO (p.getD (p.length-1) ByteArray.empty) x else false)=false):J4 n.2.1.length n=some n:=by
 obtain⟨y,l,ms,wk⟩:=n;cases l with
 |nil=>rfl
 |cons x l=>
  have:KD y x=none:=by
   unfold KD;rw[xS];intro p hp;obtain⟨j,hj,rfl⟩:=xh.1 hp;exact h x rfl j _ (qr hj)
  show J4 (l.length+1) (y,x::l,ms,wk)=_;simp only[J4,this]
theorem yf8{y ns:List (List js)}{i:Nat}(hW:Vo y=true)(hn:V7 y ((i:Int),-1)=some ns):Vo ns=true:=by
 obtain⟨h1,h2⟩:=bH hW;have hp:∀p∈QK y (i:Int) ((jt [] y (i:Int)).take ((jt [] y (i:Int)).length-1)),p.length≤999:=fun p hp=>by
  unfold QK at hp;rcases xT hp with hp|rfl
  ·exact h2 p hp
  ·rw[zE];have:(jt [] y (i:Int)).length≤999:=by
    unfold jt;rw[qC];cases e:y[(i:Int).toNat]? with
    |none=>exact zz _
    |some q=>exact h2 q (qK e)
   omega
 have G9:some (QK y (i:Int) ((jt [] y (i:Int)).take ((jt [] y (i:Int)).length-1)))=some ns:=hn;injection G9 with G9
 subst G9;unfold Vo;refine wX (jJ (by unfold QK;rw[yx];exact h1)) (qW.2 fun p h=>jJ (hp p h))
theorem y1m{P:Program}{a:Act}{w:World}{Q:Exit→Act→World→Prop}{rest:Code}(l:Nat)(J:Act→World→Prop)(μ:Act→World→Nat)(h0:J a w)
  (oC:∀a w,J a w→rest.wp P (Exit.jump l (fun a' w'=>J a' w'∧μ a' w'<μ a w) Q) a w):(Code.scope (.seq (.label l) rest)).wp P Q a w:=by
 refine wp_scope_jumps l J μ (rest :=.seq .skip rest) (by simp[findLabel]) (wp_seq (wp_label ?_)) fun a w h=>wp_seq (wp_skip (oC a w h))
 refine wp_mono (oC a w h0) fun e a' w' h =>?_
 cases e with
 |goto l'=>exact⟨h.1,h.2.1⟩
 |normal=>exact h
 |exit i=>exact h
 |ret=>exact h
 |panic c=>exact h
 |outgrown=>exact h
theorem yf5{M:Mem}{w:World}(hg:Good M w){n r:wC}{yv lv mv:Value}(hy:jz Tryz.prog YP M n.1 yv)(hl:jz Tryz.prog Zc M n.2.1 lv)(KP:jz Tryz.prog V4 M n.2.2.1 mv)(hr:J4 n.2.1.length n=some r)(A3:Vo n.1=true)(BE:n.2.1.length≤1000):
  Calls Tryz.prog 173 #[.agg #[yv,lv,mv,.int .i64 n.2.2.2]] w fun e w'=>∃M' u,e = .returned u∧jz Tryz.prog Zk M' r u∧Good M' w'∧vm M w M' w':=by
 obtain⟨w1,v6⟩:∃w1,w.alloc (.cells #[yv,lv,mv,.int .i64 n.2.2.2] 184)=w1:=⟨_,rfl⟩
 obtain⟨w2,Yc⟩:∃w2,w1.alloc (.cells #[.slice none 0 0,.slice none 0 0,.slice none 0 0,.int .i64 0] 184)=w2:=⟨_,rfl⟩
 have z1:w1.heap.size=w.heap.size+1:=by rw[←v6,qQ]
 have h0:TSt w M n yv lv mv M w2:=by
  have hb:Below w.heap.size w w2:=by
   rw[←Yc,←v6];exact((qN _ w).alloc (ql _) _).alloc (by rw[qQ];omega) _
  refine⟨Zu hg hb,Mem.le_refl _,fun _ _=>rfl,hb,?_,?_,fun o=>W9 hg (ql _) o,fun o=>W9 hg (by omega) o,hy,hl,KP⟩
  ·rw[←Yc,WL w1 _ _ (by omega),←v6];exact qz w _
  ·rw[←Yc,←z1];exact qz w1 _
 go_enter Tryz.func173,Tryz.ntmps173
 go_wp2
 refine y1m 0 (MX w M r) (fun _ W=>AX w.heap.size W) ⟨M,n,yv,lv,mv,rfl,rfl,rfl,rfl,h0,hr,A3,BE⟩ ?_;clear h0 hr A3 BE hy hl KP;rintro⟨⟨l⟩,df⟩ W ⟨M',n',yv',WO,mv',hs,hd,s1,s2,hT,hr,A3,BE⟩;simp only at hd;subst hd;obtain⟨x0,x1,x2,x3,x4,x5,x6,x7,x8,x9,QO,Q7,Zv,ZM,Yq,YC,Yp,Yo,Yn,Ym,YB,YA,Yz,Z2,YS,YR,YQ,XT,XS,XR,XQ,XP,XO,XN,XM,XL,KL,KK,KJ,KI,rfl⟩:=dA l hs;obtain rfl:x1 = .pointer (some ⟨w.heap.size,0,none⟩):=s1;obtain rfl:x2 = .pointer (some ⟨w.heap.size+1,0,none⟩):=s2;clear hs;obtain⟨y',vZ,KN,ZJ⟩:=n';simp only at hr A3 BE;have hW9:=A3;obtain⟨A3,hp9⟩:=bH A3;have lk:=hT.hy;obtain⟨v',Q4,Vc⟩:jB Tryz.prog YP M' y' [yv']:=lk;simp only[qM,zA]at Q4;subst Q4;obtain⟨ya,yc,rfl⟩:∃ya yc,yv' = .slice ya y'.length yc:=by
  rcases Vc with⟨rfl,h0⟩|⟨b,off,cap,cells,rfl,_⟩|⟨a,c,rfl,h0⟩
  ·rw[h0];exact⟨_,_,rfl⟩
  ·exact⟨_,_,rfl⟩
  ·rw[h0];exact⟨_,_,rfl⟩
 clear Vc;obtain⟨la,lc,rfl⟩:=br hT.hl;obtain⟨ma,mc,rfl⟩:=Ka hT.hm;have wj:∀W':World,W'.heap=W.heap→W'.cell? ⟨w.heap.size,0,none⟩=some (.slice ya y'.length yc)∧W'.cell? ⟨w.heap.size,1,none⟩=some (.slice la vZ.length lc)∧W'.cell? ⟨w.heap.size,2,none⟩=some (.slice ma KN.length mc)∧W'.cell? ⟨w.heap.size,3,none⟩=some (.int .i64 ZJ):=fun W' hW=>by
  have:=hT.b1;rw[←hW]at this;exact⟨va this rfl,va this rfl,va this rfl,va this rfl⟩
 obtain⟨k0,k1,k2,k3⟩:=wj W rfl;go_wp2
 go_loopw [3,7] (fun v3 v7 wr=>∃i:Nat,v7=Value.int .i64 (i:Int)∧i≤y'.length∧wr.heap=W.heap∧wr.os=W.os∧wr.tape=W.tape∧wr.output=W.output∧∀x,vZ.head?=some x→∀j p,j<i→y'[j]?=some p→(bif decide (0<p.length)then jO (p.getD (p.length-1) ByteArray.empty) x else false)=false) (fun v3 v7 wr=>PA y'.length v7)
 case atStart=>exact⟨0,rfl,zz _,rfl,rfl,rfl,rfl,fun x hx j p hj=>by omega⟩
 case round=>
  obtain⟨i,rfl,hi,q1,q2,q3,q4,q5⟩:=hrel;obtain⟨e0,e1,e2,e3⟩:=wj wr q1;have Gp:TSt w M (y',vZ,KN,ZJ) (.slice ya y'.length yc) (.slice la vZ.length lc) (.slice ma KN.length mc) M' wr:=hT.same q1 q2 q3 q4;by_cases hlt:i<y'.length
  ·have hp:y'[i]?=some y'[i]:=qr hlt;obtain⟨p,Bz⟩:∃p,y'[i]=p:=⟨_,rfl⟩
   rw[Bz]at hp;clear Bz;have BZ:(∀x,vZ.head?=some x→(bif decide (0<p.length)then jO (p.getD (p.length-1) ByteArray.empty) x else false)=false)→∀x,vZ.head?=some x→∀j p,j<i+1→y'[j]?=some p→(bif decide (0<p.length)then jO (p.getD (p.length-1) ByteArray.empty) x else false)=false:=fun h x hx j p' hj NZ=>by
    by_cases e:j=i
    ·subst e;rw[hp,qb]at NZ;subst NZ;exact h x hx
    ·exact q5 x hx j p' (by omega) NZ
   rcases vZ with _|⟨x,l'⟩
   ·simp only[qR]at e1 k1;go_wp2
    go_region
    all_goals
     go_wp2
     refine⟨⟨i+1,rfl,by omega,q1,q2,q3,q4,BZ fun x hx=>by cases hx⟩,?_⟩;show y'.length-(((i:Int)+1)).toNat<y'.length-((i:Int)).toNat
     omega
   ·obtain⟨lb,Bs,lc',e,SS⟩:=ydp Gp.hl (by simp);simp only[xb,kO]at e;obtain⟨rfl,rfl⟩:=e;have cx:wr.cell? ⟨lb,Bs,none⟩=some (.string x):=Gp.good.2 _ _ _ (SS 0 x rfl);obtain⟨b,off,cap,e,wJ⟩:=tz Gp.hy (by show 0<y'.length;omega);simp only[xb,kO]at e;obtain⟨rfl,rfl⟩:=e;obtain⟨rv,r1,r2⟩:=wJ i p hp;have cr:wr.cell? ⟨b,off+i,none⟩=some rv:=Gp.good.2 _ _ _ r1;simp only[qk]at e1;by_cases pd:p.length=0
    ·obtain⟨ra,rc,rfl⟩:=br r2;rw[pd]at cr;clear r1 r2 wJ SS;go_wp2
     go_region
     all_goals
      go_wp2
      refine⟨⟨i+1,rfl,by omega,q1,q2,q3,q4,BZ fun x hx=>by rw[vG (show ¬0<p.length by omega)];rfl⟩,?_⟩;show y'.length-(((i:Int)+1)).toNat<y'.length-((i:Int)).toNat
      omega
    ·obtain⟨m,hm⟩:∃m,p.length=m+1:=⟨p.length-1,by omega⟩
     obtain⟨rb,Bk,rc,rfl,hrc⟩:=ydp r2 (by omega);have lw:m<1000:=by have:=hp9 p (qK hp);omega
     have hs:p[m]?=some (p.getD (p.length-1) ByteArray.empty):=by
      rw[show p.length-1=m by omega,qC];cases e:p[m]? with
      |none=>rw[kG]at e;omega
      |some x=>rfl
     have cs:wr.cell? ⟨rb,Bk+m,none⟩=some (.string (p.getD (p.length-1) ByteArray.empty)):=Gp.good.2 _ _ _ (hrc m _ hs);rw[hm]at cr;have X1:=zyq (w:=wr.drew) (cap:=yc) hlt A3 lw cr cs;have hP:(bif decide (0<p.length)then jO (p.getD (p.length-1) ByteArray.empty) x else false)=jO (p.getD (p.length-1) ByteArray.empty) x:=by rw[jJ (show 0<p.length by omega),qv]
     clear r1 r2 wJ SS hrc cs hs;by_cases oV:p.getD (p.length-1) ByteArray.empty=x
     ·have NH:KD y' x=some i:=y5o hp (by rw[hP];exact bD.2 oV) fun j p hj hp=>q5 x rfl j p hj hp
      rw[oV]at X1;have hb:(x.toList==x.toList)=true:=beq_self_eq_true _;have Xo:J4 (l'.length+1) (y',x::l',KN,ZJ)=some r:=hr;simp only[J4,NH]at Xo;obtain⟨t,lr,ht2⟩:=qi.1 Xo;obtain⟨ns,G8,VP⟩:∃ns,V7 y' ((i:Int),-1)=some ns∧t=(ns,l',KN++[((i:Int),-1)],ZJ):=by
       unfold Ha at lr;cases jP:gz (y',x::l',KN,ZJ) ((i:Int),-1)with
       |false=>rw[jP]at lr;cases lr
       |true=>
        rw[jP,qv]at lr;obtain⟨ns,hn,h3⟩:=qi.1 lr;simp only[qb]at h3;exact⟨ns,hn,h3.symm⟩
      have aj:=C9.2 ((y',x::l',KN,ZJ),((i:Int),-1)) t lr;have QA:Calls Tryz.prog 131 #[.agg #[.slice (some ⟨b,off,none⟩) y'.length yc,.slice (some ⟨lb,Bs,none⟩) (l'.length+1) lc,.slice ma KN.length mc,.int .i64 ZJ],.agg #[.int .i64 (i:Int),.int .i64 (-1)]] wr.drew.drew fun e W3=>∃iS uU iR dD dC lf SF iZ M3,e = .returned (.agg #[.slice iS uU iR,.slice dD l'.length dC,.slice lf SF iZ,.int .i64 ZJ])∧
        W3.cell? ⟨w.heap.size,0,none⟩=some (.slice (some ⟨b,off,none⟩) y'.length yc)∧W3.cell? ⟨w.heap.size,1,none⟩=some (.slice (some ⟨lb,Bs,none⟩) (l'.length+1) lc)∧W3.cell? ⟨w.heap.size,2,none⟩=some (.slice ma KN.length mc)∧W3.cell? ⟨w.heap.size,3,none⟩=some (.int .i64 ZJ)∧(∀o,W3.frozen? ⟨w.heap.size,o,none⟩=false)∧
        TSt w M (ns,l',KN++[((i:Int),-1)],ZJ) (.slice iS uU iR) (.slice dD l'.length dC) (.slice lf SF iZ) M3 ((((W3.setCell ⟨w.heap.size,0,none⟩ (.slice iS uU iR)).setCell ⟨w.heap.size,1,none⟩ (.slice dD l'.length dC)).setCell ⟨w.heap.size,2,none⟩ (.slice lf SF iZ)).setCell ⟨w.heap.size,3,none⟩ (.int .i64 ZJ)):=by
       have Zg:TSt w M (y',x::l',KN,ZJ) (.slice (some ⟨b,off,none⟩) y'.length yc) (.slice (some ⟨lb,Bs,none⟩) (l'.length+1) lc) (.slice ma KN.length mc) M' wr.drew.drew:=Gp.same rfl rfl rfl rfl;refine(aj M' wr.drew.drew [_,_] Zg.good ⟨_,[_],rfl,mF Zg.hy Zg.hl Zg.hm,_,rfl,⟨#[.int .i64 (i:Int),.int .i64 (-1)],rfl,rfl,rfl⟩⟩).mono fun e W3 =>?_
       rintro⟨M3,u,rfl,hu,QS,jZ⟩;subst VP;obtain⟨yv3,lv3,mv3,rfl,u1,u2,u3⟩:=gP hu;obtain⟨dD,dC,rfl⟩:=br u2;obtain⟨iS,iR,rfl⟩:=Ka u1;obtain⟨lf,iZ,rfl⟩:=Ka u3;have c3:=(jZ.below.block _ (qd.1 Zg.b1).1).trans Zg.b1;exact⟨iS,_,iR,dD,dC,lf,_,iZ,M3,rfl,va c3 rfl,va c3 rfl,va c3 rfl,va c3 rfl,fun _=>Vs c3,Zg.put QS jZ (QN (G:=[]) Zg.good jZ).le u1 u2 u3⟩
      subst VP;clear aj hP NH Gp hT BZ wj;go_wp2
      go_region_with (go_at_call 130;refine X1.mono ?_;rintro e w' ⟨rfl,rfl⟩)
      all_goals
       go_wp2_with (go_at_call 131;refine QA.mono ?_;clear QA;rintro e W3 ⟨iS,uU,iR,dD,dC,lf,SF,iZ,M3,rfl,t0,t1,t2,t3,tf,Gq⟩)
       go_step3
       refine⟨rfl,⟨M3,(ns,l',KN++[((i:Int),-1)],ZJ),_,_,_,rfl,rfl,rfl,rfl,Gq,ht2,yf8 hW9 G8,by rw[qk]at BE;show l'.length≤1000;omega⟩,?_⟩;have pz:=va (off:=1) (v :=.slice dD l'.length dC) Gq.b1 rfl;unfold AX;rw[pz,k1];show l'.length<(x::l').length;rw[qk];omega
     ·have ru:=BZ fun x' wn=>by cases wn;exact hP.trans (by cases h:jO (p.getD (p.length-1) ByteArray.empty) x with|false=>rfl|true=>exact absurd (bD.1 h) oV)
      generalize p.getD (p.length-1) ByteArray.empty=s at X1 oV hP;have hb:(s.toList==x.toList)=false:=by
       cases h:(s.toList==x.toList)with
       |false=>rfl
       |true=>exact absurd (bD.1 h) oV
      have hP':(bif decide (0<p.length)then jO s x else false)=false:=hP.trans hb;go_wp2
      go_region_with (go_at_call 130;refine X1.mono ?_;rintro e w' ⟨rfl,rfl⟩)
      all_goals
       go_wp2
       refine⟨⟨i+1,rfl,by omega,q1,q2,q3,q4,ru⟩,?_⟩;show y'.length-(((i:Int)+1)).toNat<y'.length-((i:Int)).toNat
       omega
  ·have h2:=Gp.b2;have g0:wr.cell? ⟨w.heap.size+1,0,none⟩=some (.slice none 0 0):=va h2 rfl;have g1:wr.cell? ⟨w.heap.size+1,1,none⟩=some (.slice none 0 0):=va h2 rfl;have g2:wr.cell? ⟨w.heap.size+1,2,none⟩=some (.slice none 0 0):=va h2 rfl;have g3:wr.cell? ⟨w.heap.size+1,3,none⟩=some (.int .i64 0):=va h2 rfl;have gf:∀off,wr.frozen? ⟨w.heap.size+1,off,none⟩=false:=fun _=>Vs h2
   have Q9:=Gp.fin;obtain rfl:i=y'.length:=by omega
   have Q2:=y7x (n:=(y',vZ,KN,ZJ)) fun x hx j p hp=>q5 x hx j p (qp.1 hp).1 hp
   have SL:J4 vZ.length (y',vZ,KN,ZJ)=some r:=hr;rw[show J4 vZ.length (y',vZ,KN,ZJ)=some (y',vZ,KN,ZJ) from Q2,qb]at SL;subst SL;go_wp2
   simp only[Exit.jump];exact zu (y5v rfl Q9.2.2 ⟨Gp.hy,Gp.hl,Gp.hm,rfl⟩) rfl ⟨M',_,rfl,mF Gp.hy Gp.hl Gp.hm,Q9.1,Q9.2.1⟩
theorem zjl:Has Tryz.prog zij:=by
 refine⟨enters_of (by kernel_rfl),fun n r hr M w vs hg Q3 =>?_⟩;obtain⟨v,rfl,hv⟩:=Q3;have Xo:iL n=some r:=hr;unfold iL at Xo;cases hW:Vo n.1 with
 |false=>rw[hW]at Xo;cases Xo
 |true=>
  by_cases hl:n.2.1.length≤1000
  ·rw[hW,jJ hl]at Xo;obtain⟨yv,lv,mv,rfl,h1,h2,h3⟩:=gP hv;refine(yf5 hg h1 h2 h3 Xo hW hl).mono fun e w' =>?_
   rintro⟨M',u,rfl,q1,q2,q3⟩;exact⟨M',u,rfl,q1,q2,q3⟩
  ·rw[hW,vG hl]at Xo;cases Xo
end Go.Lift
