/-
  The reader of words: an order.
-/
import Derived.Test.YtggnjngdmadbaaaGreatDoorManG
import Derived.Test.YtggnjngdmadbaaaGreatDoorYaM
set_option maxRecDepth 100000
set_option linter.all false
namespace Go.Lift
open Go Go.Proofs Go.RowKit
attribute [local go_sem] Oper.semAt_some
def Sk(bR:Nat)(M:Mem)(w:World)(r:(Int×Int)⊕vn)(e:Ending)(w':World):Prop:=
 ∃M' vO vF,e = .returned (.tuple #[vO,vF])∧Good M' w'∧Fra [bR] M w M' w'∧(∃o,jz Tryz.prog TO M' o vO∧∀o',r = .inr o'→o=o'∧vF = .pointer none)∧∀j,r = .inl j→jz Tryz.prog (.ptr TF) M' j vF
theorem y6f{F:Fence}(hF:Open F)(n:Nat){M:Mem}{w:World}(hg:Good M w){s:js}{b:Bool}(h:GU s=some b):
  CallsIn F n Tryz.prog 99 #[.string s] w fun e w'=>∃M',e = .returned (.bool b)∧Good M' w'∧vm M w M' w':=
 (hF.calls (uw.2 s b h M w [.string s] hg ⟨_,rfl,Xj.2 rfl⟩)).mono (by
  rintro e w' ⟨M',v,rfl,hv,YU,jZ⟩;have:v = .bool b:=X8.1 hv;exact⟨M',by rw[this],YU,jZ⟩)
def Qo(o:vn):Array Value := #[.string o.1,.int .i64 o.2.1,.int .i64 o.2.2.1,.int .i64 o.2.2.2.1,.int .i64 o.2.2.2.2.1,.int .i64 o.2.2.2.2.2.1.1,.int .i64 o.2.2.2.2.2.1.2,.int .i64 o.2.2.2.2.2.2]
theorem y3y{M:Mem}{o:vn}{cs:List Value}(h:jB Tryz.prog TO M o cs):cs=(Qo o).toList:=by
 have hl:=Qp TO M o cs h;match cs,hl with
 |[a,b,c,d,e,f,g,i],_=>
  obtain⟨h1,h2,h3,h4,h5,⟨h6,h7⟩,h8⟩:=h;simp only[jB,List.take,List.drop,Ty.size,qM,zA]at h1 h2 h3 h4 h5 h6 h7 h8;subst h1 h2 h3 h4 h5 h6 h7 h8;rfl
theorem Eh{M:Mem}(o:vn):jB Tryz.prog TO M o (Qo o).toList:=⟨rfl,rfl,rfl,rfl,rfl,⟨rfl,rfl⟩,rfl⟩
theorem XJ{M:Mem}{w:World}{g:Nat}{o:vn}(h:z4d Tryz.prog M w g TO o):∃E,w.heap[g]?=some (.cells (Qo o) E (0,0)):=by
 obtain⟨⟨jT,E,h1,h2⟩,_⟩:=h;have:=y3y h2;have:jT=Qo o:=yR this;subst this;exact⟨E,h1⟩
theorem gq{M:Mem}{w:World}{g:Nat}{ws:List js}{i:Int}(h:z4d Tryz.prog M w g TR (ws,i)):∃E v,w.heap[g]?=some (.cells #[v,.int .i64 i] E (0,0))∧jB Tryz.prog (.slice .str) M ws [v]:=by
 obtain⟨⟨jT,E,h1,h2⟩,_⟩:=h;have hl:=Qp TR M (ws,i) _ h2;obtain⟨l⟩:=jT;match l,hl with
 |[a,b],_=>
  obtain⟨h3,h4⟩:=h2;simp only[jB,List.take,List.drop,Ty.size,qM,zA]at h4;subst h4;exact⟨E,a,h1,h3⟩
structure OSt (w:World) (M:Mem) (bR g2 g4:Nat) (ws:List js) (i:Int) (o:vn) (M2:Mem) (W:World):Prop where
 good:Good M2 W
 fra:Fra [bR] M w M2 W
 rd:z4d Tryz.prog M2 W bR TR (ws,i)
 od:z4d Tryz.prog M2 W g4 TO o
 res:∃o,z4d Tryz.prog M2 W g2 TO o
 n1:w.heap.size≤g2
 n2:w.heap.size≤g4
 n3:g2≠g4
 n4:bR<w.heap.size
theorem OSt.step{w:World}{M:Mem}{bR g2 g4:Nat}{ws:List js}{i:Int}{o:vn}{M2:Mem}{W:World}(h:OSt w M bR g2 g4 ws i o M2 W){M3:Mem}{W3:World}{i':Int}{o':vn}(hg:Good M3 W3)(hf:Fra [bR,g4] M2 W M3 W3)(hR:z4d Tryz.prog M3 W3 bR TR (ws,i'))(hO:z4d Tryz.prog M3 W3 g4 TO o'):OSt w M bR g2 g4 ws i' o' M3 W3:=by
 have h1:=h.n1;have h2:=h.n2;have h3:=h.n3;have h4:=h.n4;refine⟨hg,⟨Mem.le_trans h.fra.le hf.le,hf.os.trans h.fra.os,hf.tape.trans h.fra.tape,hf.output.trans h.fra.output,ze h.fra.size hf.size,fun j hj hn=>(hf.block j (qV hj h.fra.size) ?_).trans (h.fra.block j hj hn),fun j hj hn=>(hf.mem j (qV hj h.fra.size) ?_).trans (h.fra.mem j hj hn)⟩,hR,hO,?_,h.n1,h.n2,h.n3,h.n4⟩
 ·simp only[qF,yb,ka,not_or]at hn⊢;omega
 ·simp only[qF,yb,ka,not_or]at hn⊢;omega
 ·obtain⟨o2,hr⟩:=h.res;exact⟨o2,hr.keep hf (by simp;omega)⟩
theorem OSt.quiet{w:World}{M:Mem}{bR g2 g4:Nat}{ws:List js}{i:Int}{o:vn}{M2:Mem}{W:World}(h:OSt w M bR g2 g4 ws i o M2 W){M3:Mem}{W3:World}(hg:Good M3 W3)(hf:Fra [] M2 W M3 W3):OSt w M bR g2 g4 ws i o M3 W3:=
 h.step hg (hf.sub (by simp)) (h.rd.keep hf (by simp)) (h.od.keep hf (by simp))
theorem V8{W:World}{g:Nat}{o:vn}{E:TypeId}(h:W.heap[g]?=some (.cells (Qo o) E (0,0))):
  W.cell? ⟨g,0,none⟩=some (.string o.1)∧W.cell? ⟨g,1,none⟩=some (.int .i64 o.2.1)∧W.cell? ⟨g,2,none⟩=some (.int .i64 o.2.2.1)∧W.cell? ⟨g,3,none⟩=some (.int .i64 o.2.2.2.1)∧W.cell? ⟨g,4,none⟩=some (.int .i64 o.2.2.2.2.1)∧W.cell? ⟨g,5,none⟩=some (.int .i64 o.2.2.2.2.2.1.1)∧W.cell? ⟨g,6,none⟩=some (.int .i64 o.2.2.2.2.2.1.2)∧W.cell? ⟨g,7,none⟩=some (.int .i64 o.2.2.2.2.2.2)∧∀off,W.frozen? ⟨g,off,none⟩=false:=
 ⟨va h rfl,va h rfl,va h rfl,va h rfl,va h rfl,va h rfl,va h rfl,va h rfl,fun _=>Vs h⟩
theorem ye6:fits Tryz.prog TO (.inl 27)=true:=by kernel_rfl
theorem Ie{tmps:Array Value}{W:World}{g:Nat}{o:vn}{E:TypeId}(h2:tmps.getD 2 undef = .pointer (some ⟨g,0,none⟩))(hb:W.heap[g]?=some (.cells (Qo o) E (0,0))):
  (Go.results Tryz.f118 tmps).run Tryz.prog W = .ok (.tuple #[.agg (Qo o),tmps.getD 3 undef]) W:=by
 obtain⟨i,d,hi⟩:=Qx ye6;have hl:(loadVar 27 ⟨g,0,none⟩).run Tryz.prog W = .ok (KY TO (Qo o).toList) W:=bL hi (Eh (M:=fun _ _=>none) o) (fun j u hj=>by
  rw[qY];exact va hb (by simpa using hj))
 have hr:Tryz.f118.results=#[.cell 2 27,.tmp 3]:=by kernel_rfl
 have ho:KY TO (Qo o).toList = .agg (Qo o):=rfl;rw[ho]at hl;simp only[Go.results,hr,qy,xa,xm,xE,h2,asAddr,qD,qt,hl,xX];rfl
def GF(W:World)(g:Nat)(o:vn):World:=
 (((((((W.setCell ⟨g,0,none⟩ (.string o.1)).setCell ⟨g,1,none⟩ (.int .i64 o.2.1)).setCell ⟨g,2,none⟩ (.int .i64 o.2.2.1)).setCell ⟨g,3,none⟩ (.int .i64 o.2.2.2.1)).setCell ⟨g,4,none⟩ (.int .i64 o.2.2.2.2.1)).setCell ⟨g,5,none⟩ (.int .i64 o.2.2.2.2.2.1.1)).setCell ⟨g,6,none⟩ (.int .i64 o.2.2.2.2.2.1.2)).setCell ⟨g,7,none⟩ (.int .i64 o.2.2.2.2.2.2)
theorem Rj{M:Mem}{W:World}{g:Nat}{o0 o:vn}{E:TypeId}(hg:Good M W)(hM:∀o,M g o=none)(hb:W.heap[g]?=some (.cells (Qo o0) E (0,0))):
  Good M (GF W g o)∧Fra [g] M W M (GF W g o)∧(GF W g o).heap[g]?=some (.cells (Qo o) E (0,0)):=by
 obtain⟨a1,b1,c1⟩:=X9 (off:=0) (v :=.string o.1) hg hM hb;obtain⟨a2,b2,c2⟩:=X9 (off:=1) (v :=.int .i64 o.2.1) a1 hM c1;obtain⟨a3,b3,c3⟩:=X9 (off:=2) (v :=.int .i64 o.2.2.1) a2 hM c2;obtain⟨a4,b4,c4⟩:=X9 (off:=3) (v :=.int .i64 o.2.2.2.1) a3 hM c3;obtain⟨a5,b5,c5⟩:=X9 (off:=4) (v :=.int .i64 o.2.2.2.2.1) a4 hM c4;obtain⟨a6,b6,c6⟩:=X9 (off:=5) (v :=.int .i64 o.2.2.2.2.2.1.1) a5 hM c5;obtain⟨a7,b7,c7⟩:=X9 (off:=6) (v :=.int .i64 o.2.2.2.2.2.1.2) a6 hM c6;obtain⟨a8,b8,c8⟩:=X9 (off:=7) (v :=.int .i64 o.2.2.2.2.2.2) a7 hM c7;have DN:=((((((b1.trans b2).trans b3).trans b4).trans b5).trans b6).trans b7).trans b8;have e:(((((((((Qo o0).setIfInBounds 0 (.string o.1)).setIfInBounds 1 (.int .i64 o.2.1)).setIfInBounds 2 (.int .i64 o.2.2.1)).setIfInBounds 3 (.int .i64 o.2.2.2.1)).setIfInBounds 4 (.int .i64 o.2.2.2.2.1)).setIfInBounds 5 (.int .i64 o.2.2.2.2.2.1.1)).setIfInBounds 6 (.int .i64 o.2.2.2.2.2.1.2)).setIfInBounds 7 (.int .i64 o.2.2.2.2.2.2))=Qo o:=by
  simp[Qo]
 rw[e]at c8;unfold GF;exact⟨a8,DN,c8⟩
theorem gH{w:World}{M:Mem}{bR g2 g4:Nat}{ws:List js}{i:Int}{o o':vn}{M2:Mem}{W:World}{r:(Int×Int)⊕vn}{tmps:Array Value}(st:OSt w M bR g2 g4 ws i o M2 W)(h2:tmps.getD 2 undef = .pointer (some ⟨g2,0,none⟩))
  (h:(∃j,r = .inl j∧jz Tryz.prog (.ptr TF) M2 j (tmps.getD 3 undef))∨(r = .inr o'∧tmps.getD 3 undef = .pointer none)):
  bodyPost Tryz.prog Tryz.f118 (Sk bR M w r) .ret {tmps:=tmps,defers:=[]} (GF W g2 o'):=by
 obtain⟨o2,hr⟩:=st.res;obtain⟨E,e⟩:=XJ hr;obtain⟨a,b,c⟩:=Rj (o:=o') st.good hr.2 e;refine zu (Ie h2 c) rfl ⟨M2,_,_,rfl,a,?_,⟨o',GQ (Eh o'),fun Nt ho =>?_⟩,fun j hj =>?_⟩
 ·have h1:=st.n1;have h4:=st.n4;exact⟨Mem.le_trans st.fra.le b.le,b.os.trans st.fra.os,b.tape.trans st.fra.tape,b.output.trans st.fra.output,ze st.fra.size b.size,fun j hj hn=>(b.block j (qV hj st.fra.size) (by simp;omega)).trans (st.fra.block j hj hn),fun j hj hn=>(b.mem j (qV hj st.fra.size) (by simp;omega)).trans (st.fra.mem j hj hn)⟩
 ·rcases h with⟨j,rfl,_⟩|⟨rfl,h⟩
  ·cases ho
  ·cases ho;exact⟨rfl,h⟩
 ·rcases h with⟨j',rfl,h⟩|⟨rfl,h⟩
  ·cases hj;exact h
  ·cases hj
theorem IN{W:World}{g:Nat}{o:vn}:(GF W g o).heap.size=W.heap.size:=by
 simp only[GF,World.size_setCell]
theorem yc0{w:World}{M:Mem}{bR g2 g4:Nat}{ws:List js}{i:Int}{o o':vn}{M2:Mem}{W:World}{r:(Int×Int)⊕vn}{tmps:Array Value}{x y:Int}{E:TypeId}(st:OSt w M bR g2 g4 ws i o M2 W)(h2:tmps.getD 2 undef = .pointer (some ⟨g2,0,none⟩))
  (hr:r = .inl (x,y)) (h3:tmps.getD 3 undef = .pointer (some ⟨W.heap.size,0,none⟩)):
  bodyPost Tryz.prog Tryz.f118 (Sk bR M w r) .ret {tmps:=tmps,defers:=[]} ((GF W g2 o').alloc (.cells #[.int .i64 x,.int .i64 y] E)):=by
 subst hr;obtain⟨o2,hr⟩:=st.res;obtain⟨E2,e⟩:=XJ hr;have JD:=(qd.1 e).1;obtain⟨a,b,c⟩:=Rj (o:=o') st.good hr.2 e;obtain⟨a1,b1,c1⟩:=GO (cs := #[.int .i64 x,.int .i64 y]) (T:=E) a;have c':((GF W g2 o').alloc (.cells #[.int .i64 x,.int .i64 y] E)).heap[g2]?=some (.cells (Qo o') E2 (0,0)):=by
  rw[WL _ _ _ (by rw[IN];exact JD)];exact c
 refine zu (Ie h2 c') rfl ⟨_,_,_,rfl,a1,?_,⟨o',GQ (Eh o'),fun Nt ho=>by cases ho⟩,fun j hj =>?_⟩
 ·have h1:=st.n1;have h4:=st.n4;have f:Fra [bR] M w M2 (GF W g2 o'):=⟨Mem.le_trans st.fra.le b.le,b.os.trans st.fra.os,b.tape.trans st.fra.tape,b.output.trans st.fra.output,ze st.fra.size b.size,fun j hj hn=>(b.block j (qV hj st.fra.size) (by simp;omega)).trans (st.fra.block j hj hn),fun j hj hn=>(b.mem j (qV hj st.fra.size) (by simp;omega)).trans (st.fra.mem j hj hn)⟩
  exact f.trans (QN a b1)
 ·cases hj;rw[h3];refine⟨_,0,[.int .i64 x,.int .i64 y],rfl,⟨rfl,rfl⟩,fun j u hj =>?_⟩;have hz:W.heap.size=(GF W g2 o').heap.size:=IN.symm;show Zi M2 (GF W g2 o').heap.size _ W.heap.size (0+j)=some u;rw[hz,qY,Fz];exact hj
end Go.Lift
namespace Go.Lift
open Go Go.Proofs Go.RowKit
theorem OSt.setName{w:World}{M:Mem}{bR g2 g4:Nat}{ws:List js}{i:Int}{o:vn}{M2:Mem}{W:World}(h:OSt w M bR g2 g4 ws i o M2 W)(s:js):OSt w M bR g2 g4 ws i (s,o.2) M2 (W.setCell ⟨g4,0,none⟩ (.string s))∧Fra [g4] M2 W M2 (W.setCell ⟨g4,0,none⟩ (.string s)):=by
 obtain⟨E,e⟩:=XJ h.od;obtain⟨a,b,c⟩:=X9 (off:=0) (v :=.string s) h.good h.od.2 e;have h2:=h.n2;have h4:=h.n4;have e1:(Qo o).setIfInBounds 0 (.string s)=Qo (s,o.2):=by simp[Qo]
 rw[e1]at c;exact⟨h.step a (b.sub (by simp)) (h.rd.keep b (by simp;omega)) ⟨⟨_,E,c,Eh _⟩,h.od.2⟩,b⟩
theorem OSt.setAt{w:World}{M:Mem}{bR g2 g4:Nat}{ws:List js}{i:Int}{o:vn}{M2:Mem}{W:World}(h:OSt w M bR g2 g4 ws i o M2 W)(j:Int):OSt w M bR g2 g4 ws j o M2 (W.setCell ⟨bR,1,none⟩ (.int .i64 j))∧Fra [bR] M2 W M2 (W.setCell ⟨bR,1,none⟩ (.int .i64 j)):=by
 obtain⟨E,v,e,hv⟩:=gq h.rd;obtain⟨a,b,c⟩:=X9 (off:=1) (v :=.int .i64 j) h.good h.rd.2 e;have h2:=h.n2;have h4:=h.n4;have e1:(#[v,.int .i64 i]:Array Value).setIfInBounds 1 (.int .i64 j)=#[v,.int .i64 j]:=by simp
 rw[e1]at c;refine⟨h.step a (b.sub (by simp)) ⟨⟨_,E,c,?_⟩,h.rd.2⟩ (h.od.keep b (by simp;omega)),b⟩;exact⟨hv,by simp[jB,Ty.size]⟩
structure gh where
 w:World
 M:Mem
 bR:Nat
 g2:Nat
 g4:Nat
 ws:List js
 gs:Nat
 gu:Nat
 gm:Nat
 es:Array MapEntry
 cl:Nat
 gb:Nat
 M7:Mem
structure LSt (L:gh) (g9:Nat) (i:Int) (x:js) (o:vn) (given:Nat→Bool) (M2:Mem) (W:World):Prop where
 st:OSt L.w L.M L.bR L.g2 L.g4 L.ws i o M2 W
 le:Mem.le L.M7 M2
 tab:L.M7.has L.gs 0 (Cd L.gu)
 um:L.M7 L.gu 0=some (.map (some L.gm))
 rel:XB .str (.int .i64) D8 L.es
 map:W.heap[L.gm]?=some (.map L.es L.cl)
 giv:∃arr E,W.heap[L.gb]?=some (.cells arr E (0,0))∧arr.size=6∧∀j,j<6→arr[j]?=some (.bool (given j))
 givM:∀o,M2 L.gb o=none
 word:∃E,W.heap[g9]?=some (.cells #[.string x] E (0,0))
 wordM:∀o,M2 g9 o=none
 lb:L.w.heap.size≤L.gb
 l9:L.w.heap.size≤g9
 d1:L.gb≠L.g4
 d2:L.gb≠L.g2
 d3:g9≠L.g4
 d4:g9≠L.g2
 d5:g9≠L.gb
variable {L:gh} {g9:Nat} {i:Int} {x:js} {o:vn} {given:Nat→Bool} {M2:Mem} {W:World}
theorem LSt.gm_ne(h:LSt L g9 i x o given M2 W):L.gm≠L.bR∧L.gm≠L.g4∧L.gm≠L.gb∧L.gm≠g9∧L.gm<W.heap.size:=by
 have hm:=h.map;refine⟨fun e =>?_,fun e =>?_,fun e =>?_,fun e =>?_,(qd.1 hm).1⟩
 ·obtain⟨E,v,k,_⟩:=gq h.st.rd;rw[e,k]at hm;cases hm
 ·obtain⟨E,k⟩:=XJ h.st.od;rw[e,k]at hm;cases hm
 ·obtain⟨arr,E,k,_⟩:=h.giv;rw[e,k]at hm;cases hm
 ·obtain⟨E,k⟩:=h.word;rw[e,k]at hm;cases hm
theorem LSt.step(h:LSt L g9 i x o given M2 W){M3:Mem}{W3:World}{i':Int}{o':vn}(Zd:OSt L.w L.M L.bR L.g2 L.g4 L.ws i' o' M3 W3)(hf:Fra [L.bR,L.g4] M2 W M3 W3):LSt L g9 i' x o' given M3 W3:=by
 have h1:=h.lb;have h2:=h.l9;have h4:=h.st.n4;have h3:=h.st.n2;obtain⟨k1,k2,k3,k4,k5⟩:=h.gm_ne;have d1:=h.d1;have d3:=h.d3;obtain⟨arr,E,e1,e2,e3⟩:=h.giv;obtain⟨E9,e9⟩:=h.word;have hb:=(qd.1 e1).1;have h9:=(qd.1 e9).1;exact⟨Zd,Mem.le_trans h.le hf.le,h.tab,h.um,h.rel,(hf.block _ k5 (by simp[k1,k2])).trans h.map,⟨arr,E,(hf.block _ hb (by simp;omega)).trans e1,e2,e3⟩,fun o=>by rw[hf.mem _ hb (by simp;omega)];exact h.givM o,⟨E9,(hf.block _ h9 (by simp;omega)).trans e9⟩,fun o=>by rw[hf.mem _ h9 (by simp;omega)];exact h.wordM o,h.lb,h.l9,h.d1,h.d2,h.d3,h.d4,h.d5⟩
theorem LSt.quiet(h:LSt L g9 i x o given M2 W){M3:Mem}{W3:World}(hg:Good M3 W3)(hf:Fra [] M2 W M3 W3):LSt L g9 i x o given M3 W3:=h.step (h.st.quiet hg hf) (hf.sub (by simp))
theorem LSt.setAt(h:LSt L g9 i x o given M2 W)(j:Int):LSt L g9 j x o given M2 (W.setCell ⟨L.bR,1,none⟩ (.int .i64 j)):=by
 obtain⟨a,b⟩:=h.st.setAt j;exact h.step a (b.sub (by simp))
theorem LSt.setGiven(h:LSt L g9 i x o given M2 W){k:Nat}(hk:k<6)(b:Bool):LSt L g9 i x o (vH given k b) M2 (W.setCell ⟨L.gb,k,none⟩ (.bool b)):=by
 have h1:=h.lb;have h2:=h.l9;have h4:=h.st.n4;have h3:=h.st.n2;have h5:=h.st.n1;obtain⟨k1,k2,k3,k4,k5⟩:=h.gm_ne;have d1:=h.d1;have d2:=h.d2;have d3:=h.d3;have d5:=h.d5;obtain⟨arr,E,e1,e2,e3⟩:=h.giv;obtain⟨E9,e9⟩:=h.word;obtain⟨a,f,c⟩:=X9 (off:=k) (v :=.bool b) h.st.good h.givM e1;have h9:=(qd.1 e9).1;obtain⟨o2,hr⟩:=h.st.res;refine⟨⟨a,⟨Mem.le_trans h.st.fra.le f.le,f.os.trans h.st.fra.os,f.tape.trans h.st.fra.tape,f.output.trans h.st.fra.output,ze h.st.fra.size f.size,fun j hj hn=>(f.block j (qV hj h.st.fra.size) (by simp;omega)).trans (h.st.fra.block j hj hn),fun j hj hn=>(f.mem j (qV hj h.st.fra.size) (by simp;omega)).trans (h.st.fra.mem j hj hn)⟩,h.st.rd.keep f (by simp;omega),h.st.od.keep f (by simp;omega),⟨o2,hr.keep f (by simp;omega)⟩,h.st.n1,h.st.n2,h.st.n3,h.st.n4⟩,h.le,h.tab,h.um,h.rel,(f.block _ k5 (by simp[k3])).trans h.map,⟨_,E,c,by simpa using e2,fun j hj =>?_⟩,h.givM,⟨E9,(f.block _ h9 (by simp;omega)).trans e9⟩,h.wordM,h.lb,h.l9,h.d1,h.d2,h.d3,h.d4,h.d5⟩;rw[kp];unfold vH;by_cases e:k=j
 ·subst e;rw[qH rfl,qH (by omega),ym];rfl
 ·rw[qT e,show Nat.beq j k=false from by
   cases hb:Nat.beq j k with
   |false=>rfl
   |true=>exact absurd (qq hb).symm e,qu]
  exact e3 j hj
theorem LSt.newWord(h:LSt L g9 i x o given M2 W)(y:js)(E:TypeId):LSt L W.heap.size i y o given M2 (W.alloc (.cells #[.string y] E)):=by
 have hb:Below W.heap.size W (W.alloc (.cells #[.string y] E)):=(qN _ W).alloc (ql _) _;have hg:=Zu h.st.good hb;have hq:=h.quiet hg (QN h.st.good ⟨hb,fun _ _=>rfl⟩);obtain⟨arr,E1,e1,_⟩:=h.giv;have SU:=(qd.1 e1).1;obtain⟨E4,e4⟩:=XJ h.st.od;have hl4:=(qd.1 e4).1;obtain⟨o2,hr⟩:=h.st.res;obtain⟨E2,e2⟩:=XJ hr;have JD:=(qd.1 e2).1;exact⟨hq.st,hq.le,hq.tab,hq.um,hq.rel,hq.map,hq.giv,hq.givM,⟨E,qz W _⟩,fun o=>W9 h.st.good (ql _) o,hq.lb,h.st.fra.size,hq.d1,hq.d2,by omega,by omega,by omega⟩
theorem LSt.setWord(h:LSt L g9 i x o given M2 W)(y:js):LSt L g9 i y o given M2 (W.setCell ⟨g9,0,none⟩ (.string y)):=by
 have h1:=h.lb;have h2:=h.l9;have h4:=h.st.n4;have h3:=h.st.n2;have h5:=h.st.n1;obtain⟨k1,k2,k3,k4,k5⟩:=h.gm_ne;have d1:=h.d1;have d2:=h.d2;have d3:=h.d3;have d4:=h.d4;have d5:=h.d5;obtain⟨arr,E,e1,e2,e3⟩:=h.giv;obtain⟨E9,e9⟩:=h.word;obtain⟨a,f,c⟩:=X9 (off:=0) (v :=.string y) h.st.good h.wordM e9;have hb:=(qd.1 e1).1;obtain⟨o2,hr⟩:=h.st.res;refine⟨⟨a,⟨Mem.le_trans h.st.fra.le f.le,f.os.trans h.st.fra.os,f.tape.trans h.st.fra.tape,f.output.trans h.st.fra.output,ze h.st.fra.size f.size,fun j hj hn=>(f.block j (qV hj h.st.fra.size) (by simp;omega)).trans (h.st.fra.block j hj hn),fun j hj hn=>(f.mem j (qV hj h.st.fra.size) (by simp;omega)).trans (h.st.fra.mem j hj hn)⟩,h.st.rd.keep f (by simp;omega),h.st.od.keep f (by simp;omega),⟨o2,hr.keep f (by simp;omega)⟩,h.st.n1,h.st.n2,h.st.n3,h.st.n4⟩,h.le,h.tab,h.um,h.rel,(f.block _ k5 (by simp[k4])).trans h.map,⟨arr,E,(f.block _ hb (by simp;omega)).trans e1,e2,e3⟩,h.givM,⟨E9,?_⟩,h.wordM,h.lb,h.l9,h.d1,h.d2,h.d3,h.d4,h.d5⟩;rw[c];simp
def atOf(g:Nat)(W:World):Int:=match W.cell? ⟨g,1,none⟩with
 |some (.int _ n)=>n
 |_=>0
theorem LSt.atOf(h:LSt L g9 i x o given M2 W):atOf L.bR W=i:=by
 obtain⟨E,v,e,_⟩:=gq h.st.rd;have hc:W.cell? ⟨L.bR,1,none⟩=some (.int .i64 i):=va e rfl;simp only[Lift.atOf,hc]
def uW(W:World)(g:Nat)(o:vn):Prop:=
 W.cell? ⟨g,0,none⟩=some (.string o.1)∧W.cell? ⟨g,1,none⟩=some (.int .i64 o.2.1)∧W.cell? ⟨g,2,none⟩=some (.int .i64 o.2.2.1)∧W.cell? ⟨g,3,none⟩=some (.int .i64 o.2.2.2.1)∧W.cell? ⟨g,4,none⟩=some (.int .i64 o.2.2.2.2.1)∧W.cell? ⟨g,5,none⟩=some (.int .i64 o.2.2.2.2.2.1.1)∧W.cell? ⟨g,6,none⟩=some (.int .i64 o.2.2.2.2.2.1.2)∧W.cell? ⟨g,7,none⟩=some (.int .i64 o.2.2.2.2.2.2)∧∀off,W.frozen? ⟨g,off,none⟩=false
theorem LSt.ordAt(h:LSt L g9 i x o given M2 W):uW W L.g4 o∧∃o2,uW W L.g2 o2:=by
 obtain⟨E,e⟩:=XJ h.st.od;obtain⟨o2,r⟩:=h.st.res;obtain⟨E2,e2⟩:=XJ r;exact⟨V8 e,o2,V8 e2⟩
noncomputable def PC:Nat→KB
 |0=>Ei 0
 |1=>J9 D8 1
 |2=>J9 D8 2
 |3=>J9 EZ 3
 |4=>tV
 |_=>Ei 6
noncomputable def gC(ws:List js):Nat→vn→Int→(Nat→Bool)→Option ((Int×Int)⊕(vn×(Nat→Bool)))
 |0,_,_,_=>none
 | n+1,o,i,given=>if i<(ws.length:Int)then match Fw (wo ws i)with
   |none=>some (.inl (i,7))
   |some k=>bif given k then some (.inl (i,23))else(PC k ws (i+1) o).bind fun q=>match q.1 with
    |some j=>some (.inl (j,7))
    |none=>bif decide (i<q.2.1)then gC ws n q.2.2 q.2.1 (vH given k true)else none
  else some (.inr (o,given))
theorem IC{x:js}{k:Nat}(h:Fw x=some k):k<6:=by
 unfold Fw at h;obtain⟨hlt,_⟩:=yM.1 h;exact hlt
theorem LSt.clause(h:LSt L g9 i x o given M2 W){k:Nat}(hk:k<6):∃v,(BX L.gu)[k]?=some v∧W.cell? ⟨L.gs,k*3+2,none⟩=some v∧gW L.M7 (some (L.gm,.map L.es L.cl)) v (PC k):=by
 obtain⟨cw,m,f,e1,e2,e3,e4,e5,e6,e7⟩:=PK (gu:=L.gu) hk;refine⟨f,e6,h.st.good.2 _ _ _ (h.le _ _ _ (by have:=h.tab _ _ e3;rwa [qY]at this)),?_⟩;obtain rfl|rfl|rfl|rfl|rfl|rfl:k=0∨k=1∨k=2∨k=3∨k=4∨k=5:=by omega
 ·cases e6;exact LK _ _ (zV Tryz.func198 (by kernel_rfl) rfl) yam
 ·cases e6;exact y77 h.rel h.um
 ·cases e6;exact y76 h.rel h.um
 ·cases e6;exact y75 _ _
 ·cases e6;exact y74 _ _
 ·cases e6;exact LK _ _ (zV Tryz.func208 (by kernel_rfl) rfl) yal
theorem LSt.alloc(h:LSt L g9 i x o given M2 W)(cs:Array Value)(E:TypeId):LSt L g9 i x o given M2 (W.alloc (.cells cs E)):=by
 have hb:Below W.heap.size W (W.alloc (.cells cs E)):=(qN _ W).alloc (ql _) _;exact h.quiet (Zu h.st.good hb) (QN h.st.good ⟨hb,fun _ _=>rfl⟩)
theorem LSt.fault(h:LSt L g9 i x o given M2 W)(a b:Int)(E:TypeId):∃M3,LSt L g9 i x o given M3 (W.alloc (.cells #[.int .i64 a,.int .i64 b] E))∧jz Tryz.prog (.ptr TF) M3 (a,b) (.pointer (some ⟨W.heap.size,0,none⟩)):=by
 obtain⟨a1,b1,c1⟩:=GO (cs := #[.int .i64 a,.int .i64 b]) (T:=E) h.st.good;refine⟨_,h.quiet a1 (QN h.st.good b1),⟨W.heap.size,0,[.int .i64 a,.int .i64 b],rfl,⟨rfl,rfl⟩,fun j u hj =>?_⟩⟩;rw[qY,Fz];exact hj
theorem LQ{gu k:Nat}{v:Value}(h:(BX gu)[k]?=some v):∃g caps,v = .func (.func g) #[] caps:=by
 have hk:k<6:=(qp.1 h).1;obtain rfl|rfl|rfl|rfl|rfl|rfl:k=0∨k=1∨k=2∨k=3∨k=4∨k=5:=by omega
 all_goals (cases h;exact⟨_,_,rfl⟩)
def CE(given:Nat→Bool)(k:Nat):Bool:=(lK.getD k false) && !(given k)
theorem yfk(given:Nat→Bool)(h:∀j,j<6→CE given j=false):(!(given 0&&given 1&&given 3))=false:=by
 have h0:=h 0 (by omega);have h1:=h 1 (by omega);have h3:=h 3 (by omega);simp only[CE,lK,List.getD_cons_zero,List.getD_cons_succ,zJ,Bool.not_eq_false']at h0 h1 h3;rw[h0,h1,h3];rfl
theorem y50(given:Nat→Bool){k:Nat}(hk:k<6)(h:CE given k=true):(!(given 0&&given 1&&given 3))=true:=by
 obtain rfl|rfl|rfl|rfl|rfl|rfl:k=0∨k=1∨k=2∨k=3∨k=4∨k=5:=by omega
 all_goals simp only[CE,lK,List.getD_cons_zero,List.getD_cons_succ,zJ,zS,zO,qA]at h
 all_goals simp[h]
end Go.Lift
namespace Go.Lift
open Go Go.Proofs Go.RowKit
attribute [local go_sem] Oper.semAt_some
theorem j9(P:Program)(w:World)(a:Addr)(m:Mode)(g:Fn)(x y:Array Value):(store a (.func g x y) m).run P w=stored P w a (.func g x y) m:=run_store P w a _ m rfl
attribute [local go_sem] j9
def lN:(Int×Int)⊕(vn×(Nat→Bool))→(Int×Int)⊕vn
 |.inl f =>.inl f
 |.inr q=>bif !(q.2 0&&q.2 1&&q.2 3)then .inl (0,14)else .inr q.1
set_option maxHeartbeats 8000000 in
theorem IP{F:Fence}(hF:Open F)(hro:F.round=none)(n:Nat){M:Mem}{w:World}{bR:Nat}{ws:List js}(hg:Good M w)(hR:z4d Tryz.prog M w bR TR (ws,0)){r:(Int×Int)⊕vn}{is:Bool}(pS:GU (wo ws 0)=some is)(hr:is=false→r = .inl (0,7))(jH:ws.length≤4611686018427387904){nf0:Nat}{res:(Int×Int)⊕(vn×(Nat→Bool))}(KQ:is=true→gC ws nf0 (wo ws 0,(0,(0,(0,(0,((0,20000),0)))))) 1 (fun _=>false)=some res)
    (Vf:is=true→r=lN res):
    CallsIn F n Tryz.prog 118 #[.pointer (some ⟨bR,0,none⟩)] w (Sk bR M w r):=by
  have wM:∀k:Nat,(F.depth.isSome=true→1≤k):=fun k h=>by rw[hF.depth]at h;cases h
  have hlR:bR<w.heap.size:=by
    obtain⟨⟨jT,E,h,_⟩,_⟩:=hR;exact(qd.1 h).1
  obtain⟨w1,v6⟩:∃w1,w.alloc (.cells (Qo (ByteArray.empty,(0,(0,(0,(0,((0,0),0))))))) 27)=w1:=⟨_,rfl⟩
  obtain⟨w2,Yc⟩:∃w2,w1.alloc (.cells (Qo (ByteArray.empty,(0,(0,(0,(0,((0,20000),0))))))) 27)=w2:=⟨_,rfl⟩
  have z1:w1.heap.size=w.heap.size+1:=by rw[←v6,qQ]
  have Qu:Below w.heap.size w w1:=by rw[←v6];exact(qN _ w).alloc (ql _) _
  have QU:Below w.heap.size w w2:=by rw[←Yc];exact Qu.alloc (by rw[z1];omega) _
  have gr2:vm M w M w2:=⟨QU,fun _ _=>rfl⟩
  have wE:=Zu hg QU;have f2:Fra [] M w M w2:=QN hg gr2;have ou:OSt w M bR w.heap.size (w.heap.size+1) ws 0 (ByteArray.empty,(0,(0,(0,(0,((0,20000),0)))))) M w2:=by
    refine⟨wE,f2.sub (by simp),hR.keep f2 (by simp),⟨⟨_,27,?_,Eh _⟩,fun o=>W9 hg (by omega) o⟩,⟨_,⟨_,27,?_,Eh (ByteArray.empty,(0,(0,(0,(0,((0,0),0))))))⟩,fun o=>W9 hg (ql _) o⟩,ql _,by omega,by omega,hlR⟩
    · rw[←Yc,←z1];exact qz w1 _
    · rw[←Yc,WL w1 _ _ (by omega),←v6];exact qz w _
  have c2:=mV hF hro (n-1) ou.good ou.rd (jp 0);clear z1 Qu QU gr2 wE f2;subst v6;refine zy Tryz.func118 rfl (hF.fn 118) ?_ hro;simp only[Tryz.ntmps118,qJ,qk,qR,Nat.reduceAdd,Nat.reduceSub,zj,zk,zw,zo,qP,qS];have NB:=Yc;clear Yc;gi_wp2_with fail
  refine⟨hF.fn _,wM _,?_⟩;subst NB;refine c2.mono ?_;clear c2;rintro e w3 ⟨M3,rfl,QS,Gj,HF⟩;have AQ:=ou.step QS (Gj.sub (by simp)) HF (ou.od.keep Gj (by simp;omega));have c3:=y6f hF (n-1) AQ.good pS;cases is with
  |false=>
    replace hr:=hr rfl
    gi_wp2_with ((try refine⟨hF.fn _,?_⟩);(try refine⟨wM _,?_⟩);gi_at_call 99;refine c3.mono ?_;clear c3;rintro e w4 ⟨M4,rfl,WP,Xr⟩)
    have cP:=AQ.quiet WP (QN AQ.good Xr);obtain⟨w5,Cr⟩:∃w5,w4.drew=w5:=⟨_,rfl⟩
    have AP:OSt w M bR w.heap.size (w.heap.size+1) ws 0 _ M4 w5:=Cr▸cP.quiet (bF WP) bz
    have c5:=ub hF hro (n-1) AP.good AP.rd;obtain⟨E5,e5⟩:=XJ AP.od;obtain⟨q0,q1,q2,q3,q4,q5,q6,q7,qf⟩:=V8 e5;gi_region_with ((try refine⟨hF.fn _,?_⟩);(try refine⟨wM _,?_⟩);gi_at_call 165;refine c5.mono ?_;clear c5;rintro e w6 ⟨M6,vf,rfl,FL,Fk,DI,O4⟩;have K8:=AP.step Fk (DI.sub (by simp)) O4 (AP.od.keep DI (by simp;omega));obtain⟨E6,e6⟩:=XJ K8.od;obtain⟨p0,p1,p2,p3,p4,p5,p6,p7,pf⟩:=V8 e6;obtain⟨o7,r7⟩:=K8.res;obtain⟨E7,e7⟩:=XJ r7;obtain⟨s0,s1,s2,s3,s4,s5,s6,s7,sf⟩:=V8 e7)
    all_goals gi_wp2
    all_goals exact gH (o':=(ByteArray.empty,(0,(0,(0,(0,((0,20000),0))))))) K8 rfl (.inl ⟨(0,7),hr,FL⟩)
  |true=>
    clear hr;replace KQ:=KQ rfl
    replace Vf:=Vf rfl
    gi_wp2_with ((try refine⟨hF.fn _,?_⟩);(try refine⟨wM _,?_⟩);gi_at_call 99;refine c3.mono ?_;clear c3;rintro e w4 ⟨M4,rfl,WP,Xr⟩;have cP:=AQ.quiet WP (QN AQ.good Xr);obtain⟨E4,e4⟩:=XJ cP.od;obtain⟨q0,q1,q2,q3,q4,q5,q6,q7,qf⟩:=V8 e4;obtain⟨ER,vR,eR,hvR⟩:=gq cP.rd;have r1:=va (off:=1) eR rfl;have rf:=Vs (off:=1) eR)
    have cP:=AQ.quiet WP (QN AQ.good Xr);obtain⟨AP,_⟩:=cP.setName (wo ws 0);obtain⟨K8,_⟩:=AP.setAt 1;have c7:=zy6 hF hro (n-1) K8.good;clear q0 q1 q2 q3 q4 q5 q6 q7 qf r1 rf eR e4;refine⟨hF.fn _,wM _,c7.mono ?_⟩;clear c7;rintro e w7 ⟨M7,gs,gu,gm,es,cl,rfl,az,eB,eA,dQ,hum,hm7,SY,hrel⟩;have AO:=K8.quiet az (QN K8.good eB);obtain⟨cB,EB,ei,wJ,_⟩:=ydo (P:=Tryz.prog) (M:=M7) z26 (T:=221) (e :=.bool) (j:=6) (j':=6) (by kernel_rfl) rfl (by rfl) w7;replace ei:(Instr.makeSlice 221 (.int .i64 6) (.int .i64 6)).run Tryz.prog w7 = .ok (.slice (some ⟨w7.heap.size,0,none⟩) 6 6) (w7.alloc (.cells cB EB)):=ei
    obtain⟨gb,DE⟩:∃gb,w7.heap.size=gb:=⟨_,rfl⟩
    obtain⟨w8,NA⟩:∃w8,w7.alloc (.cells cB EB)=w8:=⟨_,rfl⟩
    have DN:Below w7.heap.size w7 w8:=by rw[←NA];exact(qN _ w7).alloc (ql _) _
    have ay:=Zu az DN;have ot:=AO.quiet ay (QN az ⟨DN,fun _ _=>rfl⟩);have rF:w8.heap[gb]?=some (.cells cB EB (0,0)):=by rw[←NA,←DE];exact qz w7 _
    have hbM:∀o,M7 gb o=none:=fun o=>W9 az (by omega) o
    rw[NA,DE]at ei;have c8:=mV hF hro (n-1) ot.good ot.rd (by decide:(0:Int)≤1);gi_wp2_with ((try refine⟨hF.fn _,?_⟩);(try refine⟨wM _,?_⟩);gi_at_call 164;refine c8.mono ?_;clear c8;rintro e w9 ⟨M9,rfl,Fj,aB,hb9⟩)
    have st9:=ot.step Fj (aB.sub (by simp)) hb9 (ot.od.keep aB (by simp;omega));obtain⟨L,hL⟩:∃L:gh,L=⟨w,M,bR,w.heap.size,w.heap.size+1,ws,gs,gu,gm,es,cl,gb,M7⟩:=⟨_,rfl⟩
    have hls:=eB.below.size;have pD:gb<w8.heap.size:=(qd.1 rF).1;have FN:=K8.fra.size;have Om:gm<w7.heap.size:=(qd.1 hm7).1;have Zd:LSt L w9.heap.size 1 (wo ws 1) (wo ws 0,(0,(0,(0,(0,((0,20000),0)))))) (fun _=>false) M9 (w9.alloc (.cells #[.string (wo ws 1)] 9)):=by
      have hg9':=Fj;have BO:Below w9.heap.size w9 (w9.alloc (.cells #[.string (wo ws 1)] 9)):=(qN _ w9).alloc (ql _) _;have Nk:=st9.quiet (Zu Fj BO) (QN Fj ⟨BO,fun _ _=>rfl⟩);have f89:=aB.size;have l8:w7.heap.size≤w8.heap.size:=DN.size;have OD:gb<w9.heap.size:=by omega
      have l7:=AO.fra.size;have l4:w.heap.size+1<w7.heap.size:=by
        obtain⟨E,e⟩:=XJ AO.od;exact(qd.1 e).1
      have OC:gm<w9.heap.size:=by omega
      have Ol:w8.heap[gm]?=some (.map es cl):=(DN.block gm Om).trans hm7;have OB:gm≠bR:=by omega
      have lw:w9.heap[gm]?=some (.map es cl):=(aB.block gm (by omega) (by simp[OB])).trans Ol;have pY:gb≠bR:=by omega
      have O3:w9.heap[gb]?=some (.cells cB EB (0,0)):=(aB.block gb pD (by simp[pY])).trans rF;rw[hL];refine⟨Nk,aB.le,dQ,hum,hrel,(BO.block gm OC).trans lw,⟨cB,EB,(BO.block gb OD).trans O3,?_,fun j hj =>?_⟩,fun o=>by rw[aB.mem gb pD (by simp[pY])];exact hbM o,⟨9,qz w9 _⟩,fun o=>W9 Fj (ql _) o,?_,?_,?_,?_,?_,?_,?_⟩
      · have h:=wJ.1
        simpa [Ty.size]using h
      · have h:=wJ.2 j (by simpa using hj)
        rw[List.getElem_replicate]at h;have h':(cB.toList.drop (j*1)).take 1=[Value.bool false]:=h;rw[xe]at h';have h3:=congrArg (·[0]?) h';simpa [zb,zd]using h3
      all_goals (simp only[];omega)
    have GR:L.bR=bR:=by rw[hL]
    have G2:L.g2=w.heap.size:=by rw[hL]
    have G4:L.g4=w.heap.size+1:=by rw[hL]
    have GB:L.gb=gb:=by rw[hL]
    have GS:L.gs=gs:=by rw[hL]
    have GW:L.w=w:=by rw[hL]
    have GM:L.M=M:=by rw[hL]
    have GWS:L.ws=ws:=by rw[hL]
    clear hL;clear ou AQ cP AP K8 AO ot st9 eB Xr QS WP az ay Fj Gj aB HF hb9 DN;gi_loopw [9,10] (fun p9 VD wr=>∃(g9:Nat) (i:Int) (o:vn) (given:Nat→Bool) (Mk:Mem) (nf:Nat),p9 = .pointer (some ⟨g9,0,none⟩)∧VD = .bool (decide (i<(ws.length:Int)))∧0≤i∧LSt L g9 i (wo ws i) o given Mk wr∧gC ws nf o i given=some res)
      (fun p9 VD wr=>((ws.length:Int)-atOf bR wr).toNat)
    case atStart=>exact⟨_,1,_,_,M9,nf0,rfl,rfl,by decide,Zd,KQ⟩
    case round=>
      obtain⟨g9,i,o,given,Mk,nf,rfl,rfl,Qh,hS,hl⟩:=hrel;cases nf with
      |zero=>cases hl
      |succ nf=>
      simp only[gC]at hl;by_cases hi:i<(ws.length:Int)
      · rw [qH hi]at hl
        clear Zd KQ;have rX:i+1≤9223372036854775807:=by omega
        obtain⟨E9,e9⟩:=hS.word;have c9:wr.cell? ⟨g9,0,none⟩=some (.string (wo ws i)):=va e9 rfl;have A7:Mk.has gs 0 (Cd L.gu):=by rw[←GS];exact hS.tab.mono hS.le
        have CB:=y2v hF hro (n-1) hS.st.good A7 c9;cases hk:Fw (wo ws i)with
        |none=>
          rw[hk]at hl CB;simp only[qb]at hl;subst hl;gi_wp2_with ((try refine⟨hF.fn _,?_⟩);(try refine⟨wM _,?_⟩);gi_at_call 167;refine CB.mono ?_;clear CB;rintro e og ⟨rfl,Gh,JH⟩)
          have Gs:=hS.quiet Gh (QN hS.st.good JH);obtain⟨wd,Ny⟩:∃wd,og.drew=wd:=⟨_,rfl⟩
          have EA:LSt L g9 i (wo ws i) o given Mk wd:=Ny▸Gs.quiet (bF Gh) bz
          have c5:=ub hF hro (n-1) EA.st.good EA.st.rd;obtain⟨E5,e5⟩:=XJ EA.st.od;rw[G4]at e5;obtain⟨q0,q1,q2,q3,q4,q5,q6,q7,qf⟩:=V8 e5;have n4:=EA.st.n4;have n2:=EA.st.n2;rw[GR]at c5;gi_region_with ((try refine⟨hF.fn _,?_⟩);(try refine⟨wM _,?_⟩);gi_at_call 165;refine c5.mono ?_;clear c5;rintro e w6 ⟨M6,vf,rfl,FL,Fk,DI,O4⟩;have K8:=EA.st.step Fk (DI.sub (by simp[GR])) (by rw[GR];exact O4) (EA.st.od.keep DI (by simp;omega));rw[GW,GM,GR,G2,G4,GWS]at K8;obtain⟨E6,e6⟩:=XJ K8.od;obtain⟨p0,p1,p2,p3,p4,p5,p6,p7,pf⟩:=V8 e6;obtain⟨o7,r7⟩:=K8.res;obtain⟨E7,e7⟩:=XJ r7;obtain⟨s0,s1,s2,s3,s4,s5,s6,s7,sf⟩:=V8 e7)
          all_goals gi_wp2
          all_goals exact gH (o':=o) K8 rfl (.inl ⟨(i,7),by first|exact Vf|rfl,FL⟩)
        |some k=>
          have FSx:=IC hk;rw[hk]at hl CB;replace CB:CallsIn F (n-1) Tryz.prog 167 #[.slice (some ⟨gs,0,none⟩) 6 6,.func (.func 168) #[] #[.pointer (some ⟨g9,0,none⟩)]] wr (PN Mk wr (.int .i64 (k:Int))):=CB
          simp only at hl;cases Wq:given k with
          |true=>
            rw[Wq,qv,qb]at hl;subst hl;gi_wp2_with ((try refine⟨hF.fn _,?_⟩);(try refine⟨wM _,?_⟩);gi_at_call 167;refine CB.mono ?_;clear CB;rintro e og ⟨rfl,Gh,JH⟩;have Gs:=hS.quiet Gh (QN hS.st.good JH);obtain⟨arr,E1,a1,a2,a3⟩:=Gs.giv;rw[GB]at a1;have cg:=va a1 (a3 k FSx);rw[Wq]at cg)
            obtain⟨wd,Ny⟩:∃wd,og.drew=wd:=⟨_,rfl⟩
            have EA:LSt L g9 i (wo ws i) o given Mk wd:=Ny▸Gs.quiet (bF Gh) bz
            obtain⟨E5,e5⟩:=XJ EA.st.od;rw[G4]at e5;obtain⟨q0,q1,q2,q3,q4,q5,q6,q7,qf⟩:=V8 e5;obtain⟨ER,vR,eR,hvR⟩:=gq EA.st.rd;rw[GR]at eR;have r1:=va (off:=1) eR rfl;obtain⟨M3,S9,FL⟩:=EA.fault i 23 171;have K8:=S9.st;rw[GW,GM,GR,G2,G4,GWS]at K8;obtain⟨E6,e6⟩:=XJ K8.od;obtain⟨p0,p1,p2,p3,p4,p5,p6,p7,pf⟩:=V8 e6;obtain⟨o7,r7⟩:=K8.res;obtain⟨E7,e7⟩:=XJ r7;obtain⟨s0,s1,s2,s3,s4,s5,s6,s7,sf⟩:=V8 e7;have AO:=EA.st;rw[GW,GM,GR,G2,G4,GWS]at AO;obtain⟨o8,r8⟩:=AO.res;obtain⟨E8,e8⟩:=XJ r8;obtain⟨t0,t1,t2,t3,t4,t5,t6,t7,tf⟩:=V8 e8;have hne2:bR≠w.heap.size:=by omega
            have hne2':w.heap.size≠bR:=by omega
            have F1:=fun(tmps:Array Value) (h2:tmps.getD 2 undef = .pointer (some ⟨w.heap.size,0,none⟩)) (h3:tmps.getD 3 undef = .pointer (some ⟨wd.heap.size,0,none⟩))=>gH (r:=lN (.inl (i,23))) (tmps:=tmps) (o':=o) K8 h2 (.inl ⟨(i,23),rfl,by rw[h3];exact FL⟩)
            have F2:=fun(tmps:Array Value) (h2:tmps.getD 2 undef = .pointer (some ⟨w.heap.size,0,none⟩)) (h3:tmps.getD 3 undef = .pointer (some ⟨wd.heap.size,0,none⟩))=>yc0 (r:=lN (.inl (i,23))) (x:=i) (y:=23) (E:=171) (tmps:=tmps) (o':=o) AO h2 rfl h3
            simp only[GF]at F1 F2;subst Vf;gi_region_with fail
            all_goals gi_wp2
            all_goals first
              |with_reducible apply F1
              |with_reducible apply F2
            all_goals rfl
          |false =>
            rw[Wq,qu]at hl;obtain⟨q,hq,hl⟩:=qi.1 hl;have OE:=hS.d1;have OF:=hS.lb;have hn4:=hS.st.n4;have VP:=hS.st.n2;rw[GB,G4]at OE;rw[GW,GB]at OF;have hbb:gb≠bR:=by omega
            obtain⟨fv,fx1,fx2,fx3⟩:=hS.clause FSx;obtain⟨fg,fc,rfl⟩:=LQ fx1;obtain⟨fg',fc',he,rk,ZR⟩:=fx3;cases he;gi_wp2_with ((try refine⟨hF.fn _,?_⟩);(try refine⟨wM _,?_⟩);gi_at_call 167;refine CB.mono ?_;clear CB;rintro e og ⟨rfl,Gh,JH⟩;have Gs:=hS.quiet Gh (QN hS.st.good JH);obtain⟨arr,E1,a1,a2,a3⟩:=Gs.giv;rw[GB]at a1;have cg:=va a1 (a3 k FSx);have cgf:=Vs (off:=k) a1;rw[Wq]at cg;obtain⟨P9,ND⟩:∃P9,og.setCell ⟨gb,k,none⟩ (.bool true)=P9:=⟨_,rfl⟩;have eW:=Gs.setGiven FSx true;rw[GB,ND]at eW;obtain⟨ER,vR,eR,hvR⟩:=gq eW.st.rd;rw[GR]at eR;have r1:=va (off:=1) eR rfl;have rf:=Vs (off:=1) eR;obtain⟨P8,NC⟩:∃P8,P9.setCell ⟨bR,1,none⟩ (.int .i64 (i+1))=P8:=⟨_,rfl⟩;have Wu:=eW.setAt (i+1);rw[GR,NC]at Wu;have fx2':P8.cell? ⟨gs,k*3+2,none⟩=some (.func (.func fg) #[] fc):=by(obtain⟨fv',y1,y2,_⟩:=Wu.clause FSx;rw[fx1]at y1;cases y1;rw[←GS];exact y2))
            have n4:=Wu.st.n4;have n2:=Wu.st.n2;have Bj:=Wu.st;rw[GW,GM,GR,G2,G4,GWS]at Bj
            have cc := (ZR hF hro (n-1) Wu.le (fun g ob hm=>by
              simp only[qb,qX]at hm;obtain⟨rfl,rfl⟩:=hm
              exact Wu.map) Bj.good (by omega) Bj.rd Bj.od (by omega) hq).mono (R':=fun e W2=>(e = .returned (.pointer none)∧∃M2,q.1=none∧LSt L g9 q.2.1 (wo ws i) q.2.2 (vH given k true) M2 W2∧W2.cell? ⟨g9,0,none⟩=some (.string (wo ws i)))∨
                ∃ b off,e = .returned (.pointer (some ⟨b,off,none⟩))∧∃j M2,q.1=some j∧jz Tryz.prog (.ptr TF) M2 (j,7) (.pointer (some ⟨b,off,none⟩))∧LSt L g9 q.2.1 (wo ws i) q.2.2 (vH given k true) M2 W2∧uW W2 (w.heap.size+1) q.2.2∧∃o2,uW W2 w.heap.size o2) (by
                  rintro e W2 ⟨M2,v,rfl,hv,wE,QT,QU,Ze⟩;have Ta:LSt L g9 q.2.1 (wo ws i) q.2.2 (vH given k true) M2 W2:=by
                    refine Wu.step (Wu.st.step wE ?_ ?_ ?_) ?_
                    · rw[GR,G4];exact QT
                    · rw[GR,GWS];exact QU
                    · rw[G4];exact Ze
                    · rw[GR,G4];exact QT
                  rcases UX hv with⟨Kd,rfl⟩|⟨j,b,off,Kd,rfl⟩
                  · obtain⟨E9',e9'⟩:=Ta.word
                    exact .inl ⟨rfl,M2,Kd,Ta,va e9' rfl⟩
                  · rw[Kd]at hv
                    have ho:=Ta.ordAt;rw[G4,G2]at ho;exact .inr ⟨b,off,rfl,j,M2,Kd,hv,Ta,ho⟩)
            clear ZR;gi_wp2_with (refine⟨hF.fn _,wM _,cc.mono ?_⟩;clear cc;rintro e w15 (⟨rfl,M15,Kd,eV,c15⟩|⟨b,off,rfl,j,M15,Kd,FL,eV,⟨p0,p1,p2,p3,p4,p5,p6,p7,pf⟩,o2,s0,s1,s2,s3,s4,s5,s6,s7,sf⟩))
            · rw[Kd]at hl
              simp only at hl;cases hgt:decide (i<q.2.1)with
              |false=>rw[hgt]at hl;cases hl
              |true=>
              rw[hgt,qv]at hl;replace hgt:=xI hgt
              have Gr:=eV.newWord (wo ws i) 9;have MQ:=mV hF hro (n-1) Gr.st.good Gr.st.rd (by omega);rw[GR,GWS]at MQ;refine⟨hF.fn _,wM _,MQ.mono ?_⟩;clear MQ;rintro e w17 ⟨M17,rfl,OH,eF,O5⟩;have rU:=Gr.step (Gr.st.step OH (eF.sub (by simp[GR])) (by rw[GR,GWS];exact O5) (Gr.st.od.keep eF (by have:=Gr.st.n4;have:=Gr.st.n2;rw[GW]at *;simp;omega))) (eF.sub (by simp[GR]));obtain⟨E17,Tl⟩:=rU.word;have k17:=va (off:=0) Tl rfl;have f17:=Vs (off:=0) Tl;gi_wp2_with fail
              have rT:=rU.setWord (wo ws q.2.1);refine⟨⟨_,q.2.1,_,_,M17,nf,rfl,rfl,by omega,rT,hl⟩,?_⟩;have x1:=rT.atOf;have x2:=hS.atOf;rw[GR]at x1 x2;rw[x1,x2];omega
            · rw[Kd]at hl
              simp only[qb]at hl;subst hl;have ov:=eV.st;rw[GW,GM,GR,G2,G4,GWS]at ov;exact gH (o':=q.2.2) ov rfl (.inl ⟨(j,7),by first|exact Vf|rfl,FL⟩)
      · rw [qT hi]at hl
        simp only[qb]at hl;subst hl;simp only[lN]at Vf;gi_wp2_with fail
        clear Zd KQ;gi_loopw [95] (fun p wr2=>∃(k:Nat) (Mk:Mem),p = .int .i64 (k:Int)∧k≤6∧LSt L g9 i (wo ws i) o given Mk wr2∧∀j,j<k→CE given j=false) (fun p wr2=>(7-K4 p).toNat)
        case atStart=>exact⟨0,Mk,rfl,by omega,hS,fun j hj=>absurd hj (zW _)⟩
        case round=>
          clear hS Mk;obtain⟨k,Mk,rfl,FSx,hS,Ys⟩:=hrel;obtain⟨E5,e5⟩:=XJ hS.st.od;obtain⟨o7,r7⟩:=hS.st.res;obtain⟨E7,e7⟩:=XJ r7;by_cases hk:k<6
          · obtain⟨cw,m,f,x1,x2,x3,x4,x5,x6,x7⟩:=PK (gu:=L.gu) hk
            obtain⟨fg,fc,rfl⟩:=LQ x6;have c1:wr.cell? ⟨gs,k*3,none⟩=some (.string cw):=by rw[←GS];exact hS.st.good.2 _ _ _ (hS.le _ _ _ (by have:=hS.tab _ _ x1;rwa [qY]at this))
            have c2:wr.cell? ⟨gs,k*3+1,none⟩=some (.bool m):=by rw[←GS];exact hS.st.good.2 _ _ _ (hS.le _ _ _ (by have:=hS.tab _ _ x2;rwa [qY]at this))
            have c3:wr.cell? ⟨gs,k*3+2,none⟩=some (.func (.func fg) #[] fc):=by rw[←GS];exact hS.st.good.2 _ _ _ (hS.le _ _ _ (by have:=hS.tab _ _ x3;rwa [qY]at this))
            have Tb:=hS.alloc #[.string cw,.bool m,.func (.func fg) #[] fc] 225;obtain⟨arr,E1,a1,a2,a3⟩:=Tb.giv;rw[GB]at a1;have cg:=va a1 (a3 k hk);have Wr:CE given k=(m && !(given k)):=by unfold CE;rw[qC,x5];rfl
            clear E5 e5 o7 r7 E7 e7;have done:CE given k=false→(∃(k':Nat) (Mk':Mem),Value.int .i64 ((k:Int)+1) = .int .i64 (k':Int)∧k'≤6∧LSt L g9 i (wo ws i) o given Mk' (wr.alloc (.cells #[.string cw,.bool m,.func (.func fg) #[] fc] 225))∧∀j,j<k'→CE given j=false)∧(7-K4 (.int .i64 ((k:Int)+1))).toNat<(7-K4 (.int .i64 (k:Int))).toNat:=fun hf=>
              ⟨⟨k+1,Mk,by simp,by omega,Tb,fun j hj=>by
                rcases Nat.lt_succ_iff_lt_or_eq.1 hj with h|rfl
                · exact Ys j h
                · exact hf⟩,by simp only[K4];omega⟩
            cases m with
            |false=>
              gi_wp2_with fail
              exact done Wr
            |true=>
              cases Wq:given k with
              |true=>
                rw[Wq]at cg Wr;gi_wp2_with fail
                exact done Wr
              |false=>
                rw[Wq]at cg Wr;rw[y50 given hk Wr,qv]at Vf;obtain⟨M3,S9,FL⟩:=Tb.fault 0 14 171;rw[qQ]at FL;obtain⟨E5,e5⟩:=XJ Tb.st.od;rw[G4]at e5;obtain⟨q0,q1,q2,q3,q4,q5,q6,q7,qf⟩:=V8 e5;obtain⟨o7,r7⟩:=S9.st.res;obtain⟨E7,e7⟩:=XJ r7;rw[G2]at e7;obtain⟨s0,s1,s2,s3,s4,s5,s6,s7,sf⟩:=V8 e7;gi_wp2_with fail
                have st:=S9.st;rw[GW,GM,GR,G2,G4,GWS]at st;have pU:=y50 given hk Wr;refine gH (o':=o) st rfl (.inl ⟨(0,14),?_,FL⟩);first
                  |exact Vf
                  |(simp only[Bool.not_and]at pU⊢;rw[pU];rfl)
          · obtain rfl:k=6:=by omega
            rw[yfk given Ys,qu]at Vf;rw[G4]at e5;obtain⟨q0,q1,q2,q3,q4,q5,q6,q7,qf⟩:=V8 e5;rw[G2]at e7;obtain⟨s0,s1,s2,s3,s4,s5,s6,s7,sf⟩:=V8 e7;gi_wp2_with fail
            have st:=hS.st;rw[GW,GM,GR,G2,G4,GWS]at st;exact gH (o':=o) st rfl (.inr ⟨Vf,rfl⟩)
end Go.Lift
