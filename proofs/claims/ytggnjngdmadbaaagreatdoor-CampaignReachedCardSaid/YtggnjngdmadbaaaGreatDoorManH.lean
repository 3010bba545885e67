/-
  The reader of words: an order.
-/
import Derived.Test.YtggnjngdmadbaaaGreatDoorManG
set_option maxRecDepth 100000
set_option linter.unusedSectionVars false
set_option linter.unusedVariables false
set_option linter.unusedSimpArgs false
namespace Go.Lift
open Go Go.Proofs Go.RowKit
attribute [local go_sem] Oper.semAt_some
def y4l(bR:Nat)(M:Mem)(w:World)(r:(Int×Int)⊕z00)(e:Ending)(w':World):Prop:=
 ∃M' vO vF,e = .returned (.tuple #[vO,vF])∧Good M' w'∧Fra [bR] M w M' w'∧(∃o,relV Tryz.prog TO M' o vO∧∀o',r = .inr o'→o=o'∧vF = .pointer none)∧∀j,r = .inl j→relV Tryz.prog (.ptr TF) M' j vF
theorem y5i{F:Fence}(hF:Open F)(n:Nat){M:Mem}{w:World}(hg:Good M w){s:ByteArray}{b:Bool}(h:z1o s=some b) :
  CallsIn F n Tryz.prog 99 #[.string s] w fun e w'=>∃M',e = .returned (.bool b)∧Good M' w'∧Grow M w M' w':=
 (hF.calls (z8h.2 s b h M w [.string s] hg ⟨_,rfl,z2s.2 rfl⟩)).mono (by
  rintro e w' ⟨M',v,rfl,hv,hg',hgr⟩;have:v = .bool b:=z2f.1 hv;exact⟨M',by rw[this],hg',hgr⟩)
def z0v(o:z00):Array Value := #[.string o.1,.int .i64 o.2.1,.int .i64 o.2.2.1,.int .i64 o.2.2.2.1,.int .i64 o.2.2.2.2.1,.int .i64 o.2.2.2.2.2.1.1,.int .i64 o.2.2.2.2.2.1.2,.int .i64 o.2.2.2.2.2.2]
theorem y2z{M:Mem}{o:z00}{cs:List Value}(h:relC Tryz.prog TO M o cs):cs=(z0v o).toList:=by
 have hl:=z0u TO M o cs h;match cs,hl with
 |[a,b,c,d,e,f,g,i],_=>
  obtain⟨h1,h2,h3,h4,h5,⟨h6,h7⟩,h8⟩:=h;simp only[relC,List.take,List.drop,Ty.size,List.cons.injEq,and_true] at h1 h2 h3 h4 h5 h6 h7 h8;subst h1 h2 h3 h4 h5 h6 h7 h8;rfl
theorem z6u{M:Mem}(o:z00):relC Tryz.prog TO M o (z0v o).toList:=⟨rfl,rfl,rfl,rfl,rfl,⟨rfl,rfl⟩,rfl⟩
theorem z4m{M:Mem}{w:World}{g:Nat}{o:z00}(h:z4e Tryz.prog M w g TO o):∃E,w.heap[g]?=some (.cells (z0v o) E (0,0)):=by
 obtain⟨⟨cur,E,h1,h2⟩,_⟩:=h;have:=y2z h2;have:cur=z0v o:=Array.ext' this;subst this;exact⟨E,h1⟩
theorem zvt{M:Mem}{w:World}{g:Nat}{ws:List ByteArray}{i:Int}(h:z4e Tryz.prog M w g TR (ws,i)):∃E v,w.heap[g]?=some (.cells #[v,.int .i64 i] E (0,0))∧relC Tryz.prog (.slice .str) M ws [v]:=by
 obtain⟨⟨cur,E,h1,h2⟩,_⟩:=h;have hl:=z0u TR M (ws,i) _ h2;obtain⟨l⟩:=cur;match l,hl with
 |[a,b],_=>
  obtain⟨h3,h4⟩:=h2;simp only[relC,List.take,List.drop,Ty.size,List.cons.injEq,and_true] at h4;subst h4;exact⟨E,a,h1,h3⟩
theorem z06{W:World}{g off:Nat}{cur:Array Value}{E:TypeId}{v:Value}(h:W.heap[g]?=some (.cells cur E (0,0)))(hv:cur[off]?=some v):W.cell? ⟨g,off,none⟩=some v:=(z4g h).trans hv
theorem z2m{W:World}{g off:Nat}{cur:Array Value}{E:TypeId}(h:W.heap[g]?=some (.cells cur E (0,0))):W.frozen? ⟨g,off,none⟩=false:=by
 simp only[World.frozen?,h];rfl
theorem z2e{M:Mem}{W:World}{g off:Nat}{v:Value}{cur:Array Value}{E:TypeId}(hg:Good M W)(hM:∀o,M g o=none)(hb:W.heap[g]?=some (.cells cur E (0,0))) :
  Good M (W.setCell ⟨g,off,none⟩ v)∧Fra [g] M W M (W.setCell ⟨g,off,none⟩ v)∧(W.setCell ⟨g,off,none⟩ v).heap[g]?=some (.cells (cur.setIfInBounds off v) E (0,0)):=by
 have hbk:∀j,j≠g→(W.setCell ⟨g,off,none⟩ v).heap[j]?=W.heap[j]?:=fun j hj=>by
  simp[World.setCell,Array.getElem?_modify,Ne.symm hj]
 refine⟨⟨Tab.keep (Mem.le_refl _) (fun j c t fr hj => ?_) hg.1,fun b o u hu => ?_⟩,⟨Mem.le_refl _,rfl,rfl,rfl,by simp[World.setCell],fun j _ hj=>hbk j (by simpa using hj),fun _ _ _=>rfl⟩,by simp[World.setCell,Array.getElem?_modify,hb]⟩
 ·by_cases e:j=g
  ·subst e;rw[hb] at hj;simp only[qb,Obj.cells.injEq] at hj;obtain⟨rfl,rfl,rfl⟩:=hj;exact⟨cur.setIfInBounds off v,(0,0),by simp[World.setCell,Array.getElem?_modify,hb],by simp⟩
  ·exact⟨c,fr,(hbk j e).trans hj,rfl⟩
 have hne:b≠g:=fun e=>by rw[e,hM] at hu;cases hu
 exact(World.cell?_of_block (hbk b hne)).trans (hg.2 b o u hu)
structure OSt (w:World) (M:Mem) (bR g2 g4:Nat) (ws:List ByteArray) (i:Int) (o:z00) (M2:Mem) (W:World):Prop where
 good:Good M2 W
 fra:Fra [bR] M w M2 W
 rd:z4e Tryz.prog M2 W bR TR (ws,i)
 od:z4e Tryz.prog M2 W g4 TO o
 res:∃o,z4e Tryz.prog M2 W g2 TO o
 n1:w.heap.size≤g2
 n2:w.heap.size≤g4
 n3:g2≠g4
 n4:bR < w.heap.size
theorem OSt.step{w:World}{M:Mem}{bR g2 g4:Nat}{ws:List ByteArray}{i:Int}{o:z00}{M2:Mem}{W:World}(h:OSt w M bR g2 g4 ws i o M2 W){M3:Mem}{W3:World}{i':Int}{o':z00}(hg:Good M3 W3)(hf:Fra [bR,g4] M2 W M3 W3)(hR:z4e Tryz.prog M3 W3 bR TR (ws,i'))(hO:z4e Tryz.prog M3 W3 g4 TO o'):OSt w M bR g2 g4 ws i' o' M3 W3:=by
 have h1:=h.n1;have h2:=h.n2;have h3:=h.n3;have h4:=h.n4;refine⟨hg,⟨Mem.le_trans h.fra.le hf.le,hf.os.trans h.fra.os,hf.tape.trans h.fra.tape,hf.output.trans h.fra.output,Nat.le_trans h.fra.size hf.size,fun j hj hn=>(hf.block j (Nat.lt_of_lt_of_le hj h.fra.size) ?_).trans (h.fra.block j hj hn),fun j hj hn=>(hf.mem j (Nat.lt_of_lt_of_le hj h.fra.size) ?_).trans (h.fra.mem j hj hn)⟩,hR,hO,?_,h.n1,h.n2,h.n3,h.n4⟩
 ·simp only[List.mem_cons,List.not_mem_nil,or_false,not_or] at hn⊢;omega
 ·simp only[List.mem_cons,List.not_mem_nil,or_false,not_or] at hn⊢;omega
 ·obtain⟨o2,hr⟩:=h.res;exact⟨o2,hr.keep hf (by simp;omega)⟩
theorem OSt.quiet{w:World}{M:Mem}{bR g2 g4:Nat}{ws:List ByteArray}{i:Int}{o:z00}{M2:Mem}{W:World}(h:OSt w M bR g2 g4 ws i o M2 W){M3:Mem}{W3:World}(hg:Good M3 W3)(hf:Fra [] M2 W M3 W3):OSt w M bR g2 g4 ws i o M3 W3:=
 h.step hg (hf.sub (by simp)) (h.rd.keep hf (by simp)) (h.od.keep hf (by simp))
theorem z8r{W:World}{g:Nat}{o:z00}{E:TypeId}(h:W.heap[g]?=some (.cells (z0v o) E (0,0))) :
  W.cell? ⟨g,0,none⟩=some (.string o.1)∧W.cell? ⟨g,1,none⟩=some (.int .i64 o.2.1)∧W.cell? ⟨g,2,none⟩=some (.int .i64 o.2.2.1)∧W.cell? ⟨g,3,none⟩=some (.int .i64 o.2.2.2.1)∧W.cell? ⟨g,4,none⟩=some (.int .i64 o.2.2.2.2.1)∧W.cell? ⟨g,5,none⟩=some (.int .i64 o.2.2.2.2.2.1.1)∧W.cell? ⟨g,6,none⟩=some (.int .i64 o.2.2.2.2.2.1.2)∧W.cell? ⟨g,7,none⟩=some (.int .i64 o.2.2.2.2.2.2)∧∀off,W.frozen? ⟨g,off,none⟩=false:=
 ⟨z06 h rfl,z06 h rfl,z06 h rfl,z06 h rfl,z06 h rfl,z06 h rfl,z06 h rfl,z06 h rfl,fun _=>z2m h⟩
theorem ycy:fits Tryz.prog TO (.inl 27)=true:=by kernel_rfl
theorem zuv{tmps:Array Value}{W:World}{g:Nat}{o:z00}{E:TypeId}(h2:tmps.getD 2 undef = .pointer (some ⟨g,0,none⟩))(hb:W.heap[g]?=some (.cells (z0v o) E (0,0))) :
  (Go.results Tryz.f118 tmps).run Tryz.prog W = .ok (.tuple #[.agg (z0v o),tmps.getD 3 undef]) W:=by
 obtain⟨i,d,hi⟩:=z0l ycy;have hl:(loadVar 27 ⟨g,0,none⟩).run Tryz.prog W = .ok (z6o TO (z0v o).toList) W:=z9m hi (z6u (M:=fun _ _=>none) o) (fun j u hj=>by
  rw[Nat.zero_add];exact z06 hb (by simpa using hj))
 have hr:Tryz.f118.results = #[.cell 2 27,.tmp 3]:=by kernel_rfl
 have ho:z6o TO (z0v o).toList = .agg (z0v o):=rfl;rw[ho] at hl;simp only[Go.results,hr,Sem.run_bind,List.mapM_toArray,List.mapM_cons,List.mapM_nil,h2,asAddr,Sem.run_pure,Result.andThen_ok,hl,Sem.run_map];rfl
def zfl(W:World)(g:Nat)(o:z00):World:=
 (((((((W.setCell ⟨g,0,none⟩ (.string o.1)).setCell ⟨g,1,none⟩ (.int .i64 o.2.1)).setCell ⟨g,2,none⟩ (.int .i64 o.2.2.1)).setCell ⟨g,3,none⟩ (.int .i64 o.2.2.2.1)).setCell ⟨g,4,none⟩ (.int .i64 o.2.2.2.2.1)).setCell ⟨g,5,none⟩ (.int .i64 o.2.2.2.2.2.1.1)).setCell ⟨g,6,none⟩ (.int .i64 o.2.2.2.2.2.1.2)).setCell ⟨g,7,none⟩ (.int .i64 o.2.2.2.2.2.2)
theorem zj5{M:Mem}{W:World}{g:Nat}{o0 o:z00}{E:TypeId}(hg:Good M W)(hM:∀o,M g o=none)(hb:W.heap[g]?=some (.cells (z0v o0) E (0,0))) :
  Good M (zfl W g o)∧Fra [g] M W M (zfl W g o)∧(zfl W g o).heap[g]?=some (.cells (z0v o) E (0,0)):=by
 obtain⟨a1,b1,c1⟩:=z2e (off:=0) (v :=.string o.1) hg hM hb;obtain⟨a2,b2,c2⟩:=z2e (off:=1) (v :=.int .i64 o.2.1) a1 hM c1;obtain⟨a3,b3,c3⟩:=z2e (off:=2) (v :=.int .i64 o.2.2.1) a2 hM c2;obtain⟨a4,b4,c4⟩:=z2e (off:=3) (v :=.int .i64 o.2.2.2.1) a3 hM c3;obtain⟨a5,b5,c5⟩:=z2e (off:=4) (v :=.int .i64 o.2.2.2.2.1) a4 hM c4;obtain⟨a6,b6,c6⟩:=z2e (off:=5) (v :=.int .i64 o.2.2.2.2.2.1.1) a5 hM c5;obtain⟨a7,b7,c7⟩:=z2e (off:=6) (v :=.int .i64 o.2.2.2.2.2.1.2) a6 hM c6;obtain⟨a8,b8,c8⟩:=z2e (off:=7) (v :=.int .i64 o.2.2.2.2.2.2) a7 hM c7;have hb8:=((((((b1.trans b2).trans b3).trans b4).trans b5).trans b6).trans b7).trans b8;have e:(((((((((z0v o0).setIfInBounds 0 (.string o.1)).setIfInBounds 1 (.int .i64 o.2.1)).setIfInBounds 2 (.int .i64 o.2.2.1)).setIfInBounds 3 (.int .i64 o.2.2.2.1)).setIfInBounds 4 (.int .i64 o.2.2.2.2.1)).setIfInBounds 5 (.int .i64 o.2.2.2.2.2.1.1)).setIfInBounds 6 (.int .i64 o.2.2.2.2.2.1.2)).setIfInBounds 7 (.int .i64 o.2.2.2.2.2.2))=z0v o:=by
  simp[z0v]
 rw[e] at c8;unfold zfl;exact⟨a8,hb8,c8⟩
theorem zp1{w:World}{M:Mem}{bR g2 g4:Nat}{ws:List ByteArray}{i:Int}{o o':z00}{M2:Mem}{W:World}{r:(Int×Int)⊕z00}{tmps:Array Value}(st:OSt w M bR g2 g4 ws i o M2 W)(h2:tmps.getD 2 undef = .pointer (some ⟨g2,0,none⟩))
  (h:(∃j,r = .inl j∧relV Tryz.prog (.ptr TF) M2 j (tmps.getD 3 undef))∨(r = .inr o'∧tmps.getD 3 undef = .pointer none)) :
  bodyPost Tryz.prog Tryz.f118 (y4l bR M w r) .ret {tmps:=tmps,defers:=[]} (zfl W g2 o'):=by
 obtain⟨o2,hr⟩:=st.res;obtain⟨E,e⟩:=z4m hr;obtain⟨a,b,c⟩:=zj5 (o:=o') st.good hr.2 e;refine bodyPost_ret (zuv h2 c) rfl ⟨M2,_,_,rfl,a,?_,⟨o',z30 (z6u o'),fun o'' ho => ?_⟩,fun j hj => ?_⟩
 ·have h1:=st.n1;have h4:=st.n4;exact⟨Mem.le_trans st.fra.le b.le,b.os.trans st.fra.os,b.tape.trans st.fra.tape,b.output.trans st.fra.output,Nat.le_trans st.fra.size b.size,fun j hj hn=>(b.block j (Nat.lt_of_lt_of_le hj st.fra.size) (by simp;omega)).trans (st.fra.block j hj hn),fun j hj hn=>(b.mem j (Nat.lt_of_lt_of_le hj st.fra.size) (by simp;omega)).trans (st.fra.mem j hj hn)⟩
 ·rcases h with⟨j,rfl,_⟩|⟨rfl,h⟩
  ·cases ho
  ·cases ho;exact⟨rfl,h⟩
 ·rcases h with⟨j',rfl,h⟩|⟨rfl,h⟩
  ·cases hj;exact h
  ·cases hj
theorem zs5{W:World}{g:Nat}{o:z00}:(zfl W g o).heap.size=W.heap.size:=by
 simp only[zfl,World.size_setCell]
theorem yay{w:World}{M:Mem}{bR g2 g4:Nat}{ws:List ByteArray}{i:Int}{o o':z00}{M2:Mem}{W:World}{r:(Int×Int)⊕z00}{tmps:Array Value}{x y:Int}{E:TypeId}(st:OSt w M bR g2 g4 ws i o M2 W)(h2:tmps.getD 2 undef = .pointer (some ⟨g2,0,none⟩))
  (hr:r = .inl (x,y)) (h3:tmps.getD 3 undef = .pointer (some ⟨W.heap.size,0,none⟩)) :
  bodyPost Tryz.prog Tryz.f118 (y4l bR M w r) .ret {tmps:=tmps,defers:=[]} ((zfl W g2 o').alloc (.cells #[.int .i64 x,.int .i64 y] E)):=by
 subst hr;obtain⟨o2,hr⟩:=st.res;obtain⟨E2,e⟩:=z4m hr;have hl2:=(qd.1 e).1;obtain⟨a,b,c⟩:=zj5 (o:=o') st.good hr.2 e;obtain⟨a1,b1,c1⟩:=z3l (cs := #[.int .i64 x,.int .i64 y]) (T:=E) a;have c':((zfl W g2 o').alloc (.cells #[.int .i64 x,.int .i64 y] E)).heap[g2]?=some (.cells (z0v o') E2 (0,0)):=by
  rw[z3x _ _ _ (by rw[zs5];exact hl2)];exact c
 refine bodyPost_ret (zuv h2 c') rfl ⟨_,_,_,rfl,a1,?_,⟨o',z30 (z6u o'),fun o'' ho=>by cases ho⟩,fun j hj => ?_⟩
 ·have h1:=st.n1;have h4:=st.n4;have f:Fra [bR] M w M2 (zfl W g2 o'):=⟨Mem.le_trans st.fra.le b.le,b.os.trans st.fra.os,b.tape.trans st.fra.tape,b.output.trans st.fra.output,Nat.le_trans st.fra.size b.size,fun j hj hn=>(b.block j (Nat.lt_of_lt_of_le hj st.fra.size) (by simp;omega)).trans (st.fra.block j hj hn),fun j hj hn=>(b.mem j (Nat.lt_of_lt_of_le hj st.fra.size) (by simp;omega)).trans (st.fra.mem j hj hn)⟩
  exact f.trans (z12 a b1)
 ·cases hj;rw[h3];refine⟨_,0,[.int .i64 x,.int .i64 y],rfl,⟨rfl,rfl⟩,fun j u hj => ?_⟩;have hz:W.heap.size=(zfl W g2 o').heap.size:=zs5.symm;show z3m M2 (zfl W g2 o').heap.size _ W.heap.size (0+j)=some u;rw[hz,Nat.zero_add,z42];exact hj
end Go.Lift
namespace Go.Lift
open Go Go.Proofs Go.RowKit
theorem OSt.setName{w:World}{M:Mem}{bR g2 g4:Nat}{ws:List ByteArray}{i:Int}{o:z00}{M2:Mem}{W:World}(h:OSt w M bR g2 g4 ws i o M2 W)(s:ByteArray):OSt w M bR g2 g4 ws i (s,o.2) M2 (W.setCell ⟨g4,0,none⟩ (.string s))∧Fra [g4] M2 W M2 (W.setCell ⟨g4,0,none⟩ (.string s)):=by
 obtain⟨E,e⟩:=z4m h.od;obtain⟨a,b,c⟩:=z2e (off:=0) (v :=.string s) h.good h.od.2 e;have h2:=h.n2;have h4:=h.n4;have e1:(z0v o).setIfInBounds 0 (.string s)=z0v (s,o.2):=by simp[z0v]
 rw[e1] at c;exact⟨h.step a (b.sub (by simp)) (h.rd.keep b (by simp;omega)) ⟨⟨_,E,c,z6u _⟩,h.od.2⟩,b⟩
theorem OSt.setAt{w:World}{M:Mem}{bR g2 g4:Nat}{ws:List ByteArray}{i:Int}{o:z00}{M2:Mem}{W:World}(h:OSt w M bR g2 g4 ws i o M2 W)(j:Int):OSt w M bR g2 g4 ws j o M2 (W.setCell ⟨bR,1,none⟩ (.int .i64 j))∧Fra [bR] M2 W M2 (W.setCell ⟨bR,1,none⟩ (.int .i64 j)):=by
 obtain⟨E,v,e,hv⟩:=zvt h.rd;obtain⟨a,b,c⟩:=z2e (off:=1) (v :=.int .i64 j) h.good h.rd.2 e;have h2:=h.n2;have h4:=h.n4;have e1:(#[v,.int .i64 i]:Array Value).setIfInBounds 1 (.int .i64 j) = #[v,.int .i64 j]:=by simp
 rw[e1] at c;refine⟨h.step a (b.sub (by simp)) ⟨⟨_,E,c,?_⟩,h.rd.2⟩ (h.od.keep b (by simp;omega)),b⟩;exact⟨hv,by simp[relC,Ty.size]⟩
structure LFix where
 w:World
 M:Mem
 bR:Nat
 g2:Nat
 g4:Nat
 ws:List ByteArray
 gs:Nat
 gu:Nat
 gm:Nat
 es:Array MapEntry
 cl:Nat
 gb:Nat
 M7:Mem
structure LSt (L:LFix) (g9:Nat) (i:Int) (x:ByteArray) (o:z00) (given:Nat→Bool) (M2:Mem) (W:World):Prop where
 st:OSt L.w L.M L.bR L.g2 L.g4 L.ws i o M2 W
 le:Mem.le L.M7 M2
 tab:L.M7.has L.gs 0 (zca L.gu)
 um:L.M7 L.gu 0=some (.map (some L.gm))
 rel:z6i .str (.int .i64) zlj L.es
 map:W.heap[L.gm]?=some (.map L.es L.cl)
 giv:∃arr E,W.heap[L.gb]?=some (.cells arr E (0,0))∧arr.size=6∧∀j,j < 6→arr[j]?=some (.bool (given j))
 givM:∀o,M2 L.gb o=none
 word:∃E,W.heap[g9]?=some (.cells #[.string x] E (0,0))
 wordM:∀o,M2 g9 o=none
 lb:L.w.heap.size≤L.gb
 l9:L.w.heap.size≤g9
 d1:L.gb≠L.g4
 d2:L.gb≠L.g2
 d3:g9≠L.g4
 d4:g9≠L.g2
 d5:g9≠L.gb
variable {L:LFix} {g9:Nat} {i:Int} {x:ByteArray} {o:z00} {given:Nat→Bool} {M2:Mem} {W:World}
theorem LSt.gm_ne(h:LSt L g9 i x o given M2 W):L.gm≠L.bR∧L.gm≠L.g4∧L.gm≠L.gb∧L.gm≠g9∧L.gm < W.heap.size:=by
 have hm:=h.map;refine⟨fun e => ?_,fun e => ?_,fun e => ?_,fun e => ?_,(qd.1 hm).1⟩
 ·obtain⟨E,v,k,_⟩:=zvt h.st.rd;rw[e,k] at hm;cases hm
 ·obtain⟨E,k⟩:=z4m h.st.od;rw[e,k] at hm;cases hm
 ·obtain⟨arr,E,k,_⟩:=h.giv;rw[e,k] at hm;cases hm
 ·obtain⟨E,k⟩:=h.word;rw[e,k] at hm;cases hm
theorem LSt.step(h:LSt L g9 i x o given M2 W){M3:Mem}{W3:World}{i':Int}{o':z00}(hst:OSt L.w L.M L.bR L.g2 L.g4 L.ws i' o' M3 W3)(hf:Fra [L.bR,L.g4] M2 W M3 W3):LSt L g9 i' x o' given M3 W3:=by
 have h1:=h.lb;have h2:=h.l9;have h4:=h.st.n4;have h3:=h.st.n2;obtain⟨k1,k2,k3,k4,k5⟩:=h.gm_ne;have d1:=h.d1;have d3:=h.d3;obtain⟨arr,E,e1,e2,e3⟩:=h.giv;obtain⟨E9,e9⟩:=h.word;have hb:=(qd.1 e1).1;have h9:=(qd.1 e9).1;exact⟨hst,Mem.le_trans h.le hf.le,h.tab,h.um,h.rel,(hf.block _ k5 (by simp[k1,k2])).trans h.map,⟨arr,E,(hf.block _ hb (by simp;omega)).trans e1,e2,e3⟩,fun o=>by rw[hf.mem _ hb (by simp;omega)];exact h.givM o,⟨E9,(hf.block _ h9 (by simp;omega)).trans e9⟩,fun o=>by rw[hf.mem _ h9 (by simp;omega)];exact h.wordM o,h.lb,h.l9,h.d1,h.d2,h.d3,h.d4,h.d5⟩
theorem LSt.quiet(h:LSt L g9 i x o given M2 W){M3:Mem}{W3:World}(hg:Good M3 W3)(hf:Fra [] M2 W M3 W3):LSt L g9 i x o given M3 W3:=h.step (h.st.quiet hg hf) (hf.sub (by simp))
theorem LSt.setAt(h:LSt L g9 i x o given M2 W)(j:Int):LSt L g9 j x o given M2 (W.setCell ⟨L.bR,1,none⟩ (.int .i64 j)):=by
 obtain⟨a,b⟩:=h.st.setAt j;exact h.step a (b.sub (by simp))
theorem LSt.setGiven(h:LSt L g9 i x o given M2 W){k:Nat}(hk:k < 6)(b:Bool):LSt L g9 i x o (upd given k b) M2 (W.setCell ⟨L.gb,k,none⟩ (.bool b)):=by
 have h1:=h.lb;have h2:=h.l9;have h4:=h.st.n4;have h3:=h.st.n2;have h5:=h.st.n1;obtain⟨k1,k2,k3,k4,k5⟩:=h.gm_ne;have d1:=h.d1;have d2:=h.d2;have d3:=h.d3;have d5:=h.d5;obtain⟨arr,E,e1,e2,e3⟩:=h.giv;obtain⟨E9,e9⟩:=h.word;obtain⟨a,f,c⟩:=z2e (off:=k) (v :=.bool b) h.st.good h.givM e1;have h9:=(qd.1 e9).1;obtain⟨o2,hr⟩:=h.st.res;refine⟨⟨a,⟨Mem.le_trans h.st.fra.le f.le,f.os.trans h.st.fra.os,f.tape.trans h.st.fra.tape,f.output.trans h.st.fra.output,Nat.le_trans h.st.fra.size f.size,fun j hj hn=>(f.block j (Nat.lt_of_lt_of_le hj h.st.fra.size) (by simp;omega)).trans (h.st.fra.block j hj hn),fun j hj hn=>(f.mem j (Nat.lt_of_lt_of_le hj h.st.fra.size) (by simp;omega)).trans (h.st.fra.mem j hj hn)⟩,h.st.rd.keep f (by simp;omega),h.st.od.keep f (by simp;omega),⟨o2,hr.keep f (by simp;omega)⟩,h.st.n1,h.st.n2,h.st.n3,h.st.n4⟩,h.le,h.tab,h.um,h.rel,(f.block _ k5 (by simp[k3])).trans h.map,⟨_,E,c,by simpa using e2,fun j hj => ?_⟩,h.givM,⟨E9,(f.block _ h9 (by simp;omega)).trans e9⟩,h.wordM,h.lb,h.l9,h.d1,h.d2,h.d3,h.d4,h.d5⟩;rw[Array.getElem?_setIfInBounds];unfold upd;by_cases e:k=j
 ·subst e;rw[if_pos rfl,if_pos (by omega),Nat.beq_refl];rfl
 ·rw[if_neg e,show Nat.beq j k=false from by
   cases hb:Nat.beq j k with
   |false=>rfl
   |true=>exact absurd (qq hb).symm e,cond_false]
  exact e3 j hj
theorem LSt.newWord(h:LSt L g9 i x o given M2 W)(y:ByteArray)(E:TypeId):LSt L W.heap.size i y o given M2 (W.alloc (.cells #[.string y] E)):=by
 have hb:Below W.heap.size W (W.alloc (.cells #[.string y] E)):=(Below.refl _ W).alloc (ql _) _;have hg:=z0k h.st.good hb;have hq:=h.quiet hg (z12 h.st.good ⟨hb,fun _ _=>rfl⟩);obtain⟨arr,E1,e1,_⟩:=h.giv;have hlb:=(qd.1 e1).1;obtain⟨E4,e4⟩:=z4m h.st.od;have hl4:=(qd.1 e4).1;obtain⟨o2,hr⟩:=h.st.res;obtain⟨E2,e2⟩:=z4m hr;have hl2:=(qd.1 e2).1;exact⟨hq.st,hq.le,hq.tab,hq.um,hq.rel,hq.map,hq.giv,hq.givM,⟨E,World.alloc_heap_new W _⟩,fun o=>z5p h.st.good (ql _) o,hq.lb,h.st.fra.size,hq.d1,hq.d2,by omega,by omega,by omega⟩
theorem LSt.setWord(h:LSt L g9 i x o given M2 W)(y:ByteArray):LSt L g9 i y o given M2 (W.setCell ⟨g9,0,none⟩ (.string y)):=by
 have h1:=h.lb;have h2:=h.l9;have h4:=h.st.n4;have h3:=h.st.n2;have h5:=h.st.n1;obtain⟨k1,k2,k3,k4,k5⟩:=h.gm_ne;have d1:=h.d1;have d2:=h.d2;have d3:=h.d3;have d4:=h.d4;have d5:=h.d5;obtain⟨arr,E,e1,e2,e3⟩:=h.giv;obtain⟨E9,e9⟩:=h.word;obtain⟨a,f,c⟩:=z2e (off:=0) (v :=.string y) h.st.good h.wordM e9;have hb:=(qd.1 e1).1;obtain⟨o2,hr⟩:=h.st.res;refine⟨⟨a,⟨Mem.le_trans h.st.fra.le f.le,f.os.trans h.st.fra.os,f.tape.trans h.st.fra.tape,f.output.trans h.st.fra.output,Nat.le_trans h.st.fra.size f.size,fun j hj hn=>(f.block j (Nat.lt_of_lt_of_le hj h.st.fra.size) (by simp;omega)).trans (h.st.fra.block j hj hn),fun j hj hn=>(f.mem j (Nat.lt_of_lt_of_le hj h.st.fra.size) (by simp;omega)).trans (h.st.fra.mem j hj hn)⟩,h.st.rd.keep f (by simp;omega),h.st.od.keep f (by simp;omega),⟨o2,hr.keep f (by simp;omega)⟩,h.st.n1,h.st.n2,h.st.n3,h.st.n4⟩,h.le,h.tab,h.um,h.rel,(f.block _ k5 (by simp[k4])).trans h.map,⟨arr,E,(f.block _ hb (by simp;omega)).trans e1,e2,e3⟩,h.givM,⟨E9,?_⟩,h.wordM,h.lb,h.l9,h.d1,h.d2,h.d3,h.d4,h.d5⟩;rw[c];simp
def atOf(g:Nat)(W:World):Int:=match W.cell? ⟨g,1,none⟩ with
 |some (.int _ n)=>n
 |_=>0
theorem LSt.atOf(h:LSt L g9 i x o given M2 W):atOf L.bR W=i:=by
 obtain⟨E,v,e,_⟩:=zvt h.st.rd;have hc:W.cell? ⟨L.bR,1,none⟩=some (.int .i64 i):=z06 e rfl;simp only[Lift.atOf,hc]
def ycb(W:World)(g:Nat)(o:z00):Prop:=
 W.cell? ⟨g,0,none⟩=some (.string o.1)∧W.cell? ⟨g,1,none⟩=some (.int .i64 o.2.1)∧W.cell? ⟨g,2,none⟩=some (.int .i64 o.2.2.1)∧W.cell? ⟨g,3,none⟩=some (.int .i64 o.2.2.2.1)∧W.cell? ⟨g,4,none⟩=some (.int .i64 o.2.2.2.2.1)∧W.cell? ⟨g,5,none⟩=some (.int .i64 o.2.2.2.2.2.1.1)∧W.cell? ⟨g,6,none⟩=some (.int .i64 o.2.2.2.2.2.1.2)∧W.cell? ⟨g,7,none⟩=some (.int .i64 o.2.2.2.2.2.2)∧∀off,W.frozen? ⟨g,off,none⟩=false
theorem LSt.ordAt(h:LSt L g9 i x o given M2 W):ycb W L.g4 o∧∃o2,ycb W L.g2 o2:=by
 obtain⟨E,e⟩:=z4m h.st.od;obtain⟨o2,r⟩:=h.st.res;obtain⟨E2,e2⟩:=z4m r;exact⟨z8r e,o2,z8r e2⟩
noncomputable def ydj:Nat→RunT
 |0=>z6t 0
 |1=>z2x zlj 1
 |2=>z2x zlj 2
 |3=>z2x unMm 3
 |4=>zkc
 |_=>z6t 6
noncomputable def zuy(ws:List ByteArray):Nat→z00→Int→(Nat→Bool)→Option ((Int×Int)⊕(z00×(Nat→Bool)))
 |0,_,_,_=>none
 | n+1,o,i,given=>if i < (ws.length:Int) then match z8j (z17 ws i) with
   |none=>some (.inl (i,7))
   |some k=>bif given k then some (.inl (i,23)) else(ydj k ws (i+1) o).bind fun q=>match q.1 with
    |some j=>some (.inl (j,7))
    |none=>bif decide (i < q.2.1) then zuy ws n q.2.2 q.2.1 (upd given k true) else none
  else some (.inr (o,given))
theorem ztb{x:ByteArray}{k:Nat}(h:z8j x=some k):k < 6:=by
 unfold z8j at h;obtain⟨hlt,_⟩:=List.findIdx?_eq_some_iff_getElem.1 h;exact hlt
theorem LSt.clause(h:LSt L g9 i x o given M2 W){k:Nat}(hk:k < 6):∃v,(fnOf L.gu)[k]?=some v∧W.cell? ⟨L.gs,k*3+2,none⟩=some v∧zh8 L.M7 (some (L.gm,.map L.es L.cl)) v (ydj k):=by
 obtain⟨cw,m,f,e1,e2,e3,e4,e5,e6,e7⟩:=y6y (gu:=L.gu) hk;refine⟨f,e6,h.st.good.2 _ _ _ (h.le _ _ _ (by have:=h.tab _ _ e3;rwa [Nat.zero_add] at this)),?_⟩;obtain rfl|rfl|rfl|rfl|rfl|rfl:k=0∨k=1∨k=2∨k=3∨k=4∨k=5:=by omega
 ·cases e6;exact zvq _ _ (Go.Proofs.enters_of Tryz.func198 (by kernel_rfl) rfl) y9i
 ·cases e6;exact y6b h.rel h.um
 ·cases e6;exact y6a h.rel h.um
 ·cases e6;exact y69 _ _
 ·cases e6;exact y68 _ _
 ·cases e6;exact zvq _ _ (Go.Proofs.enters_of Tryz.func208 (by kernel_rfl) rfl) y9h
theorem LSt.alloc(h:LSt L g9 i x o given M2 W)(cs:Array Value)(E:TypeId):LSt L g9 i x o given M2 (W.alloc (.cells cs E)):=by
 have hb:Below W.heap.size W (W.alloc (.cells cs E)):=(Below.refl _ W).alloc (ql _) _;exact h.quiet (z0k h.st.good hb) (z12 h.st.good ⟨hb,fun _ _=>rfl⟩)
theorem LSt.fault(h:LSt L g9 i x o given M2 W)(a b:Int)(E:TypeId):∃M3,LSt L g9 i x o given M3 (W.alloc (.cells #[.int .i64 a,.int .i64 b] E))∧relV Tryz.prog (.ptr TF) M3 (a,b) (.pointer (some ⟨W.heap.size,0,none⟩)):=by
 obtain⟨a1,b1,c1⟩:=z3l (cs := #[.int .i64 a,.int .i64 b]) (T:=E) h.st.good;refine⟨_,h.quiet a1 (z12 h.st.good b1),⟨W.heap.size,0,[.int .i64 a,.int .i64 b],rfl,⟨rfl,rfl⟩,fun j u hj => ?_⟩⟩;rw[Nat.zero_add,z42];exact hj
theorem zvi{gu k:Nat}{v:Value}(h:(fnOf gu)[k]?=some v):∃g caps,v = .func (.func g) #[] caps:=by
 have hk:k < 6:=(qp.1 h).1;obtain rfl|rfl|rfl|rfl|rfl|rfl:k=0∨k=1∨k=2∨k=3∨k=4∨k=5:=by omega
 all_goals (cases h;exact⟨_,_,rfl⟩)
def zx8(given:Nat→Bool)(k:Nat):Bool:=(zz0.getD k false) && !(given k)
theorem yee(given:Nat→Bool)(h:∀j,j < 6→zx8 given j=false):(!(given 0&&given 1&&given 3))=false:=by
 have h0:=h 0 (by omega);have h1:=h 1 (by omega);have h3:=h 3 (by omega);simp only[zx8,zz0,List.getD_cons_zero,List.getD_cons_succ,Bool.true_and,Bool.not_eq_false'] at h0 h1 h3;rw[h0,h1,h3];rfl
theorem y40(given:Nat→Bool){k:Nat}(hk:k < 6)(h:zx8 given k=true):(!(given 0&&given 1&&given 3))=true:=by
 obtain rfl|rfl|rfl|rfl|rfl|rfl:k=0∨k=1∨k=2∨k=3∨k=4∨k=5:=by omega
 all_goals simp only[zx8,zz0,List.getD_cons_zero,List.getD_cons_succ,Bool.true_and,Bool.false_and,Bool.not_eq_true',Bool.false_eq_true] at h
 all_goals simp[h]
end Go.Lift
namespace Go.Lift
open Go Go.Proofs Go.RowKit
attribute [local go_sem] Oper.semAt_some
theorem run_store_func(P:Program)(w:World)(a:Addr)(m:Mode)(g:Fn)(x y:Array Value):(store a (.func g x y) m).run P w=stored P w a (.func g x y) m:=run_store P w a _ m rfl
attribute [local go_sem] run_store_func
def zys:(Int×Int)⊕(z00×(Nat→Bool))→(Int×Int)⊕z00
 |.inl f =>.inl f
 |.inr q=>bif !(q.2 0&&q.2 1&&q.2 3) then .inl (0,14) else .inr q.1
set_option maxHeartbeats 8000000 in
theorem zs4{F:Fence}(hF:Open F)(hro:F.round=none)(n:Nat){M:Mem}{w:World}{bR:Nat}{ws:List ByteArray}(hg:Good M w)(hR:z4e Tryz.prog M w bR TR (ws,0)){r:(Int×Int)⊕z00}{is:Bool}(his:z1o (z17 ws 0)=some is)(hr:is=false→r = .inl (0,7))(hlen:ws.length≤4611686018427387904){nf0:Nat}{res:(Int×Int)⊕(z00×(Nat→Bool))}(hlp:is=true→zuy ws nf0 (z17 ws 0,(0,(0,(0,(0,((0,20000),0)))))) 1 (fun _=>false)=some res)
    (hrs:is=true→r=zys res) :
    CallsIn F n Tryz.prog 118 #[.pointer (some ⟨bR,0,none⟩)] w (y4l bR M w r):=by
  have hdd:∀k:Nat,(F.depth.isSome=true→1≤k):=fun k h=>by rw[hF.depth] at h;cases h
  have hlR:bR < w.heap.size:=by
    obtain⟨⟨cur,E,h,_⟩,_⟩:=hR;exact(qd.1 h).1
  obtain⟨w1,hw1⟩:∃w1,w.alloc (.cells (z0v (ByteArray.empty,(0,(0,(0,(0,((0,0),0))))))) 27)=w1:=⟨_,rfl⟩
  obtain⟨w2,hw2⟩:∃w2,w1.alloc (.cells (z0v (ByteArray.empty,(0,(0,(0,(0,((0,20000),0))))))) 27)=w2:=⟨_,rfl⟩
  have z1:w1.heap.size=w.heap.size+1:=by rw[←hw1,World.size_alloc]
  have hb1:Below w.heap.size w w1:=by rw[←hw1];exact(Below.refl _ w).alloc (ql _) _
  have hb2:Below w.heap.size w w2:=by rw[←hw2];exact hb1.alloc (by rw[z1];omega) _
  have gr2:Grow M w M w2:=⟨hb2,fun _ _=>rfl⟩
  have hg2:=z0k hg hb2;have f2:Fra [] M w M w2:=z12 hg gr2;have st2:OSt w M bR w.heap.size (w.heap.size+1) ws 0 (ByteArray.empty,(0,(0,(0,(0,((0,20000),0)))))) M w2:=by
    refine⟨hg2,f2.sub (by simp),hR.keep f2 (by simp),⟨⟨_,27,?_,z6u _⟩,fun o=>z5p hg (by omega) o⟩,⟨_,⟨_,27,?_,z6u (ByteArray.empty,(0,(0,(0,(0,((0,0),0))))))⟩,fun o=>z5p hg (ql _) o⟩,ql _,by omega,by omega,hlR⟩
    · rw[←hw2,←z1];exact World.alloc_heap_new w1 _
    · rw[←hw2,z3x w1 _ _ (by omega),←hw1];exact World.alloc_heap_new w _
  have c2:=zgu hF hro (n-1) st2.good st2.rd (Int.le_refl 0);clear z1 hb1 hb2 gr2 hg2 f2;subst hw1;refine callsIn_of_wp Tryz.func118 rfl (hF.fn 118) ?_ hro;simp only[Tryz.ntmps118,List.size_toArray,qk,List.length_nil,Nat.reduceAdd,Nat.reduceSub,Array.replicate_succ,Array.replicate_zero,List.push_toArray,List.append_toArray,List.nil_append,List.cons_append];have hw2':=hw2;clear hw2;gi_wp2_with fail
  refine⟨hF.fn _,hdd _,?_⟩;subst hw2';refine c2.mono ?_;clear c2;rintro e w3 ⟨M3,rfl,hg3,hf3,hb3⟩;have st3:=st2.step hg3 (hf3.sub (by simp)) hb3 (st2.od.keep hf3 (by simp;omega));have c3:=y5i hF (n-1) st3.good his;cases is with
  | false=>
    replace hr:=hr rfl
    gi_wp2_with ((try refine⟨hF.fn _,?_⟩);(try refine⟨hdd _,?_⟩);gi_at_call 99;refine c3.mono ?_;clear c3;rintro e w4 ⟨M4,rfl,hg4,hgr4⟩)
    have st4:=st3.quiet hg4 (z12 st3.good hgr4);obtain⟨w5,hw5⟩:∃w5,w4.drew=w5:=⟨_,rfl⟩
    have st5:OSt w M bR w.heap.size (w.heap.size+1) ws 0 _ M4 w5:=hw5 ▸ st4.quiet (zer hg4) zhq
    have c5:=zhw hF hro (n-1) st5.good st5.rd;obtain⟨E5,e5⟩:=z4m st5.od;obtain⟨q0,q1,q2,q3,q4,q5,q6,q7,qf⟩:=z8r e5;gi_region_with ((try refine⟨hF.fn _,?_⟩);(try refine⟨hdd _,?_⟩);gi_at_call 165;refine c5.mono ?_;clear c5;rintro e w6 ⟨M6,vf,rfl,hvf,hg6,hf6,hb6⟩;have st6:=st5.step hg6 (hf6.sub (by simp)) hb6 (st5.od.keep hf6 (by simp;omega));obtain⟨E6,e6⟩:=z4m st6.od;obtain⟨p0,p1,p2,p3,p4,p5,p6,p7,pf⟩:=z8r e6;obtain⟨o7,r7⟩:=st6.res;obtain⟨E7,e7⟩:=z4m r7;obtain⟨s0,s1,s2,s3,s4,s5,s6,s7,sf⟩:=z8r e7)
    all_goals gi_wp2
    all_goals exact zp1 (o':=(ByteArray.empty,(0,(0,(0,(0,((0,20000),0))))))) st6 rfl (.inl ⟨(0,7),hr,hvf⟩)
  | true=>
    clear hr;replace hlp:=hlp rfl
    replace hrs:=hrs rfl
    gi_wp2_with ((try refine⟨hF.fn _,?_⟩);(try refine⟨hdd _,?_⟩);gi_at_call 99;refine c3.mono ?_;clear c3;rintro e w4 ⟨M4,rfl,hg4,hgr4⟩;have st4:=st3.quiet hg4 (z12 st3.good hgr4);obtain⟨E4,e4⟩:=z4m st4.od;obtain⟨q0,q1,q2,q3,q4,q5,q6,q7,qf⟩:=z8r e4;obtain⟨ER,vR,eR,hvR⟩:=zvt st4.rd;have r1:=z06 (off:=1) eR rfl;have rf:=z2m (off:=1) eR)
    have st4:=st3.quiet hg4 (z12 st3.good hgr4);obtain⟨st5,_⟩:=st4.setName (z17 ws 0);obtain⟨st6,_⟩:=st5.setAt 1;have c7:=zxh hF hro (n-1) st6.good;clear q0 q1 q2 q3 q4 q5 q6 q7 qf r1 rf eR e4;refine⟨hF.fn _,hdd _,c7.mono ?_⟩;clear c7;rintro e w7 ⟨M7,gs,gu,gm,es,cl,rfl,hg7,hgr7,hgs,htab,hum,hm7,hgm,hrel⟩;have st7:=st6.quiet hg7 (z12 st6.good hgr7);obtain⟨cB,EB,hmkB,hrows,_⟩:=ych (P:=Tryz.prog) (M:=M7) z25 (T:=221) (e :=.bool) (j:=6) (j':=6) (by kernel_rfl) rfl (by rfl) w7;replace hmkB:(Instr.makeSlice 221 (.int .i64 6) (.int .i64 6)).run Tryz.prog w7 = .ok (.slice (some ⟨w7.heap.size,0,none⟩) 6 6) (w7.alloc (.cells cB EB)):=hmkB
    obtain⟨gb,hgb⟩:∃gb,w7.heap.size=gb:=⟨_,rfl⟩
    obtain⟨w8,hw8⟩:∃w8,w7.alloc (.cells cB EB)=w8:=⟨_,rfl⟩
    have hb8:Below w7.heap.size w7 w8:=by rw[←hw8];exact(Below.refl _ w7).alloc (ql _) _
    have hg8:=z0k hg7 hb8;have st8:=st7.quiet hg8 (z12 hg7 ⟨hb8,fun _ _=>rfl⟩);have hbk8:w8.heap[gb]?=some (.cells cB EB (0,0)):=by rw[←hw8,←hgb];exact World.alloc_heap_new w7 _
    have hbM:∀o,M7 gb o=none:=fun o=>z5p hg7 (by omega) o
    rw[hw8,hgb] at hmkB;have c8:=zgu hF hro (n-1) st8.good st8.rd (by decide:(0:Int)≤1);gi_wp2_with ((try refine⟨hF.fn _,?_⟩);(try refine⟨hdd _,?_⟩);gi_at_call 164;refine c8.mono ?_;clear c8;rintro e w9 ⟨M9,rfl,hg9,hf9,hb9⟩)
    have st9:=st8.step hg9 (hf9.sub (by simp)) hb9 (st8.od.keep hf9 (by simp;omega));obtain⟨L,hL⟩:∃L:LFix,L=⟨w,M,bR,w.heap.size,w.heap.size+1,ws,gs,gu,gm,es,cl,gb,M7⟩:=⟨_,rfl⟩
    have hls:=hgr7.below.size;have hlgb:gb < w8.heap.size:=(qd.1 hbk8).1;have hs6:=st6.fra.size;have hlgm:gm < w7.heap.size:=(qd.1 hm7).1;have hst:LSt L w9.heap.size 1 (z17 ws 1) (z17 ws 0,(0,(0,(0,(0,((0,20000),0)))))) (fun _=>false) M9 (w9.alloc (.cells #[.string (z17 ws 1)] 9)):=by
      have hg9':=hg9;have hb10:Below w9.heap.size w9 (w9.alloc (.cells #[.string (z17 ws 1)] 9)):=(Below.refl _ w9).alloc (ql _) _;have st10:=st9.quiet (z0k hg9 hb10) (z12 hg9 ⟨hb10,fun _ _=>rfl⟩);have f89:=hf9.size;have l8:w7.heap.size≤w8.heap.size:=hb8.size;have hgb9:gb < w9.heap.size:=by omega
      have l7:=st7.fra.size;have l4:w.heap.size+1 < w7.heap.size:=by
        obtain⟨E,e⟩:=z4m st7.od;exact(qd.1 e).1
      have hgm9:gm < w9.heap.size:=by omega
      have hm8:w8.heap[gm]?=some (.map es cl):=(hb8.block gm hlgm).trans hm7;have hgmR:gm≠bR:=by omega
      have hm9:w9.heap[gm]?=some (.map es cl):=(hf9.block gm (by omega) (by simp[hgmR])).trans hm8;have hgbR:gb≠bR:=by omega
      have hbk9:w9.heap[gb]?=some (.cells cB EB (0,0)):=(hf9.block gb hlgb (by simp[hgbR])).trans hbk8;rw[hL];refine⟨st10,hf9.le,htab,hum,hrel,(hb10.block gm hgm9).trans hm9,⟨cB,EB,(hb10.block gb hgb9).trans hbk9,?_,fun j hj => ?_⟩,fun o=>by rw[hf9.mem gb hlgb (by simp[hgbR])];exact hbM o,⟨9,World.alloc_heap_new w9 _⟩,fun o=>z5p hg9 (ql _) o,?_,?_,?_,?_,?_,?_,?_⟩
      · have h:=hrows.1
        simpa [Ty.size] using h
      · have h:=hrows.2 j (by simpa using hj)
        rw[List.getElem_replicate] at h;have h':(cB.toList.drop (j*1)).take 1=[Value.bool false]:=h;rw[Nat.mul_one] at h';have h3:=congrArg (·[0]?) h';simpa [List.getElem?_take,List.getElem?_drop] using h3
      all_goals (simp only[];omega)
    have GR:L.bR=bR:=by rw[hL]
    have G2:L.g2=w.heap.size:=by rw[hL]
    have G4:L.g4=w.heap.size+1:=by rw[hL]
    have GB:L.gb=gb:=by rw[hL]
    have GS:L.gs=gs:=by rw[hL]
    have GW:L.w=w:=by rw[hL]
    have GM:L.M=M:=by rw[hL]
    have GWS:L.ws=ws:=by rw[hL]
    clear hL;clear st2 st3 st4 st5 st6 st7 st8 st9 hgr7 hgr4 hg3 hg4 hg7 hg8 hg9 hf3 hf9 hb3 hb9 hb8;gi_loopw [9,10] (fun p9 p10 wr=>∃(g9:Nat) (i:Int) (o:z00) (given:Nat→Bool) (Mk:Mem) (nf:Nat),p9 = .pointer (some ⟨g9,0,none⟩)∧p10 = .bool (decide (i < (ws.length:Int)))∧0≤i∧LSt L g9 i (z17 ws i) o given Mk wr∧zuy ws nf o i given=some res)
      (fun p9 p10 wr=>((ws.length:Int)-atOf bR wr).toNat)
    case atStart=>exact⟨_,1,_,_,M9,nf0,rfl,rfl,by decide,hst,hlp⟩
    case round=>
      obtain⟨g9,i,o,given,Mk,nf,rfl,rfl,hi0,hS,hl⟩:=hrel;cases nf with
      |zero=>cases hl
      |succ nf=>
      simp only[zuy] at hl;by_cases hi:i < (ws.length:Int)
      · rw [if_pos hi] at hl
        clear hst hlp;have hR0:i+1≤9223372036854775807:=by omega
        obtain⟨E9,e9⟩:=hS.word;have c9:wr.cell? ⟨g9,0,none⟩=some (.string (z17 ws i)):=z06 e9 rfl;have htb:Mk.has gs 0 (zca L.gu):=by rw[←GS];exact hS.tab.mono hS.le
        have c12:=y1y hF hro (n-1) hS.st.good htb c9;cases hk:z8j (z17 ws i) with
        | none=>
          rw[hk] at hl c12;simp only[qb] at hl;subst hl;gi_wp2_with ((try refine⟨hF.fn _,?_⟩);(try refine⟨hdd _,?_⟩);gi_at_call 167;refine c12.mono ?_;clear c12;rintro e w12 ⟨rfl,hg12,hgr12⟩)
          have hS12:=hS.quiet hg12 (z12 hS.st.good hgr12);obtain⟨wd,hwd⟩:∃wd,w12.drew=wd:=⟨_,rfl⟩
          have hSd:LSt L g9 i (z17 ws i) o given Mk wd:=hwd ▸ hS12.quiet (zer hg12) zhq
          have c5:=zhw hF hro (n-1) hSd.st.good hSd.st.rd;obtain⟨E5,e5⟩:=z4m hSd.st.od;rw[G4] at e5;obtain⟨q0,q1,q2,q3,q4,q5,q6,q7,qf⟩:=z8r e5;have n4:=hSd.st.n4;have n2:=hSd.st.n2;rw[GR] at c5;gi_region_with ((try refine⟨hF.fn _,?_⟩);(try refine⟨hdd _,?_⟩);gi_at_call 165;refine c5.mono ?_;clear c5;rintro e w6 ⟨M6,vf,rfl,hvf,hg6,hf6,hb6⟩;have st6:=hSd.st.step hg6 (hf6.sub (by simp[GR])) (by rw[GR];exact hb6) (hSd.st.od.keep hf6 (by simp;omega));rw[GW,GM,GR,G2,G4,GWS] at st6;obtain⟨E6,e6⟩:=z4m st6.od;obtain⟨p0,p1,p2,p3,p4,p5,p6,p7,pf⟩:=z8r e6;obtain⟨o7,r7⟩:=st6.res;obtain⟨E7,e7⟩:=z4m r7;obtain⟨s0,s1,s2,s3,s4,s5,s6,s7,sf⟩:=z8r e7)
          all_goals gi_wp2
          all_goals exact zp1 (o':=o) st6 rfl (.inl ⟨(i,7),by first|exact hrs|rfl,hvf⟩)
        | some k=>
          have hk6:=ztb hk;rw[hk] at hl c12;replace c12:CallsIn F (n-1) Tryz.prog 167 #[.slice (some ⟨gs,0,none⟩) 6 6,.func (.func 168) #[] #[.pointer (some ⟨g9,0,none⟩)]] wr (y2m Mk wr (.int .i64 (k:Int))):=c12
          simp only at hl;cases hgk:given k with
          | true=>
            rw[hgk,cond_true,qb] at hl;subst hl;gi_wp2_with ((try refine⟨hF.fn _,?_⟩);(try refine⟨hdd _,?_⟩);gi_at_call 167;refine c12.mono ?_;clear c12;rintro e w12 ⟨rfl,hg12,hgr12⟩;have hS12:=hS.quiet hg12 (z12 hS.st.good hgr12);obtain⟨arr,E1,a1,a2,a3⟩:=hS12.giv;rw[GB] at a1;have cg:=z06 a1 (a3 k hk6);rw[hgk] at cg)
            obtain⟨wd,hwd⟩:∃wd,w12.drew=wd:=⟨_,rfl⟩
            have hSd:LSt L g9 i (z17 ws i) o given Mk wd:=hwd ▸ hS12.quiet (zer hg12) zhq
            obtain⟨E5,e5⟩:=z4m hSd.st.od;rw[G4] at e5;obtain⟨q0,q1,q2,q3,q4,q5,q6,q7,qf⟩:=z8r e5;obtain⟨ER,vR,eR,hvR⟩:=zvt hSd.st.rd;rw[GR] at eR;have r1:=z06 (off:=1) eR rfl;obtain⟨M3,hS3,hvf⟩:=hSd.fault i 23 171;have st6:=hS3.st;rw[GW,GM,GR,G2,G4,GWS] at st6;obtain⟨E6,e6⟩:=z4m st6.od;obtain⟨p0,p1,p2,p3,p4,p5,p6,p7,pf⟩:=z8r e6;obtain⟨o7,r7⟩:=st6.res;obtain⟨E7,e7⟩:=z4m r7;obtain⟨s0,s1,s2,s3,s4,s5,s6,s7,sf⟩:=z8r e7;have st7:=hSd.st;rw[GW,GM,GR,G2,G4,GWS] at st7;obtain⟨o8,r8⟩:=st7.res;obtain⟨E8,e8⟩:=z4m r8;obtain⟨t0,t1,t2,t3,t4,t5,t6,t7,tf⟩:=z8r e8;have hne2:bR≠w.heap.size:=by omega
            have hne2':w.heap.size≠bR:=by omega
            have F1:=fun(tmps:Array Value) (h2:tmps.getD 2 undef = .pointer (some ⟨w.heap.size,0,none⟩)) (h3:tmps.getD 3 undef = .pointer (some ⟨wd.heap.size,0,none⟩))=>zp1 (r:=zys (.inl (i,23))) (tmps:=tmps) (o':=o) st6 h2 (.inl ⟨(i,23),rfl,by rw[h3];exact hvf⟩)
            have F2:=fun(tmps:Array Value) (h2:tmps.getD 2 undef = .pointer (some ⟨w.heap.size,0,none⟩)) (h3:tmps.getD 3 undef = .pointer (some ⟨wd.heap.size,0,none⟩))=>yay (r:=zys (.inl (i,23))) (x:=i) (y:=23) (E:=171) (tmps:=tmps) (o':=o) st7 h2 rfl h3
            simp only[zfl] at F1 F2;subst hrs;gi_region_with fail
            all_goals gi_wp2
            all_goals first
              |with_reducible apply F1
              |with_reducible apply F2
            all_goals rfl
          | false =>
            rw[hgk,cond_false] at hl;obtain⟨q,hq,hl⟩:=qi.1 hl;have hgb4:=hS.d1;have hgb2:=hS.lb;have hn4:=hS.st.n4;have hn2:=hS.st.n2;rw[GB,G4] at hgb4;rw[GW,GB] at hgb2;have hbb:gb≠bR:=by omega
            obtain⟨fv,fx1,fx2,fx3⟩:=hS.clause hk6;obtain⟨fg,fc,rfl⟩:=zvi fx1;obtain⟨fg',fc',he,hen,hcl⟩:=fx3;cases he;gi_wp2_with ((try refine⟨hF.fn _,?_⟩);(try refine⟨hdd _,?_⟩);gi_at_call 167;refine c12.mono ?_;clear c12;rintro e w12 ⟨rfl,hg12,hgr12⟩;have hS12:=hS.quiet hg12 (z12 hS.st.good hgr12);obtain⟨arr,E1,a1,a2,a3⟩:=hS12.giv;rw[GB] at a1;have cg:=z06 a1 (a3 k hk6);have cgf:=z2m (off:=k) a1;rw[hgk] at cg;obtain⟨w13,hw13⟩:∃w13,w12.setCell ⟨gb,k,none⟩ (.bool true)=w13:=⟨_,rfl⟩;have hS13:=hS12.setGiven hk6 true;rw[GB,hw13] at hS13;obtain⟨ER,vR,eR,hvR⟩:=zvt hS13.st.rd;rw[GR] at eR;have r1:=z06 (off:=1) eR rfl;have rf:=z2m (off:=1) eR;obtain⟨w14,hw14⟩:∃w14,w13.setCell ⟨bR,1,none⟩ (.int .i64 (i+1))=w14:=⟨_,rfl⟩;have hS14:=hS13.setAt (i+1);rw[GR,hw14] at hS14;have fx2':w14.cell? ⟨gs,k*3+2,none⟩=some (.func (.func fg) #[] fc):=by(obtain⟨fv',y1,y2,_⟩:=hS14.clause hk6;rw[fx1] at y1;cases y1;rw[←GS];exact y2))
            have n4:=hS14.st.n4;have n2:=hS14.st.n2;have st14:=hS14.st;rw[GW,GM,GR,G2,G4,GWS] at st14
            have cc := (hcl hF hro (n-1) hS14.le (fun g ob hm=>by
              simp only[qb,Prod.mk.injEq] at hm;obtain⟨rfl,rfl⟩:=hm
              exact hS14.map) st14.good (by omega) st14.rd st14.od (by omega) hq).mono (R':=fun e W2=>(e = .returned (.pointer none)∧∃M2,q.1=none∧LSt L g9 q.2.1 (z17 ws i) q.2.2 (upd given k true) M2 W2∧W2.cell? ⟨g9,0,none⟩=some (.string (z17 ws i)))∨
                ∃ b off,e = .returned (.pointer (some ⟨b,off,none⟩))∧∃j M2,q.1=some j∧relV Tryz.prog (.ptr TF) M2 (j,7) (.pointer (some ⟨b,off,none⟩))∧LSt L g9 q.2.1 (z17 ws i) q.2.2 (upd given k true) M2 W2∧ycb W2 (w.heap.size+1) q.2.2∧∃o2,ycb W2 w.heap.size o2) (by
                  rintro e W2 ⟨M2,v,rfl,hv,hg2,hf2,hb2,ho2⟩;have hS2:LSt L g9 q.2.1 (z17 ws i) q.2.2 (upd given k true) M2 W2:=by
                    refine hS14.step (hS14.st.step hg2 ?_ ?_ ?_) ?_
                    · rw[GR,G4];exact hf2
                    · rw[GR,GWS];exact hb2
                    · rw[G4];exact ho2
                    · rw[GR,G4];exact hf2
                  rcases zml hv with⟨hq1,rfl⟩|⟨j,b,off,hq1,rfl⟩
                  · obtain⟨E9',e9'⟩:=hS2.word
                    exact .inl ⟨rfl,M2,hq1,hS2,z06 e9' rfl⟩
                  · rw[hq1] at hv
                    have ho:=hS2.ordAt;rw[G4,G2] at ho;exact .inr ⟨b,off,rfl,j,M2,hq1,hv,hS2,ho⟩)
            clear hcl;gi_wp2_with (refine⟨hF.fn _,hdd _,cc.mono ?_⟩;clear cc;rintro e w15 (⟨rfl,M15,hq1,hS15,c15⟩|⟨b,off,rfl,j,M15,hq1,hvf,hS15,⟨p0,p1,p2,p3,p4,p5,p6,p7,pf⟩,o2,s0,s1,s2,s3,s4,s5,s6,s7,sf⟩))
            · rw[hq1] at hl
              simp only at hl;cases hgt:decide (i < q.2.1) with
              |false=>rw[hgt] at hl;cases hl
              |true=>
              rw[hgt,cond_true] at hl;replace hgt:=of_decide_eq_true hgt
              have hS16:=hS15.newWord (z17 ws i) 9;have c17:=zgu hF hro (n-1) hS16.st.good hS16.st.rd (by omega);rw[GR,GWS] at c17;refine⟨hF.fn _,hdd _,c17.mono ?_⟩;clear c17;rintro e w17 ⟨M17,rfl,hg17,hf17,hb17⟩;have hS17:=hS16.step (hS16.st.step hg17 (hf17.sub (by simp[GR])) (by rw[GR,GWS];exact hb17) (hS16.st.od.keep hf17 (by have:=hS16.st.n4;have:=hS16.st.n2;rw[GW] at *;simp;omega))) (hf17.sub (by simp[GR]));obtain⟨E17,e17⟩:=hS17.word;have k17:=z06 (off:=0) e17 rfl;have f17:=z2m (off:=0) e17;gi_wp2_with fail
              have hS18:=hS17.setWord (z17 ws q.2.1);refine⟨⟨_,q.2.1,_,_,M17,nf,rfl,rfl,by omega,hS18,hl⟩,?_⟩;have x1:=hS18.atOf;have x2:=hS.atOf;rw[GR] at x1 x2;rw[x1,x2];omega
            · rw[hq1] at hl
              simp only[qb] at hl;subst hl;have st15:=hS15.st;rw[GW,GM,GR,G2,G4,GWS] at st15;exact zp1 (o':=q.2.2) st15 rfl (.inl ⟨(j,7),by first|exact hrs|rfl,hvf⟩)
      · rw [if_neg hi] at hl
        simp only[qb] at hl;subst hl;simp only[zys] at hrs;gi_wp2_with fail
        clear hst hlp;gi_loopw [95] (fun p wr2=>∃(k:Nat) (Mk:Mem),p = .int .i64 (k:Int)∧k≤6∧LSt L g9 i (z17 ws i) o given Mk wr2∧∀j,j < k→zx8 given j=false) (fun p wr2=>(7-valI p).toNat)
        case atStart=>exact⟨0,Mk,rfl,by omega,hS,fun j hj=>absurd hj (Nat.not_lt_zero _)⟩
        case round=>
          clear hS Mk;obtain⟨k,Mk,rfl,hk6,hS,hno⟩:=hrel;obtain⟨E5,e5⟩:=z4m hS.st.od;obtain⟨o7,r7⟩:=hS.st.res;obtain⟨E7,e7⟩:=z4m r7;by_cases hk:k < 6
          · obtain⟨cw,m,f,x1,x2,x3,x4,x5,x6,x7⟩:=y6y (gu:=L.gu) hk
            obtain⟨fg,fc,rfl⟩:=zvi x6;have c1:wr.cell? ⟨gs,k*3,none⟩=some (.string cw):=by rw[←GS];exact hS.st.good.2 _ _ _ (hS.le _ _ _ (by have:=hS.tab _ _ x1;rwa [Nat.zero_add] at this))
            have c2:wr.cell? ⟨gs,k*3+1,none⟩=some (.bool m):=by rw[←GS];exact hS.st.good.2 _ _ _ (hS.le _ _ _ (by have:=hS.tab _ _ x2;rwa [Nat.zero_add] at this))
            have c3:wr.cell? ⟨gs,k*3+2,none⟩=some (.func (.func fg) #[] fc):=by rw[←GS];exact hS.st.good.2 _ _ _ (hS.le _ _ _ (by have:=hS.tab _ _ x3;rwa [Nat.zero_add] at this))
            have hS1:=hS.alloc #[.string cw,.bool m,.func (.func fg) #[] fc] 225;obtain⟨arr,E1,a1,a2,a3⟩:=hS1.giv;rw[GB] at a1;have cg:=z06 a1 (a3 k hk);have hgap:zx8 given k=(m && !(given k)):=by unfold zx8;rw[List.getD_eq_getElem?_getD,x5];rfl
            clear E5 e5 o7 r7 E7 e7;have done:zx8 given k=false→(∃(k':Nat) (Mk':Mem),Value.int .i64 ((k:Int)+1) = .int .i64 (k':Int)∧k'≤6∧LSt L g9 i (z17 ws i) o given Mk' (wr.alloc (.cells #[.string cw,.bool m,.func (.func fg) #[] fc] 225))∧∀j,j < k'→zx8 given j=false)∧(7-valI (.int .i64 ((k:Int)+1))).toNat < (7-valI (.int .i64 (k:Int))).toNat:=fun hf=>
              ⟨⟨k+1,Mk,by simp,by omega,hS1,fun j hj=>by
                rcases Nat.lt_succ_iff_lt_or_eq.1 hj with h|rfl
                · exact hno j h
                · exact hf⟩,by simp only[valI];omega⟩
            cases m with
            | false=>
              gi_wp2_with fail
              exact done hgap
            | true=>
              cases hgk:given k with
              | true=>
                rw[hgk] at cg hgap;gi_wp2_with fail
                exact done hgap
              | false=>
                rw[hgk] at cg hgap;rw[y40 given hk hgap,cond_true] at hrs;obtain⟨M3,hS3,hvf⟩:=hS1.fault 0 14 171;rw[World.size_alloc] at hvf;obtain⟨E5,e5⟩:=z4m hS1.st.od;rw[G4] at e5;obtain⟨q0,q1,q2,q3,q4,q5,q6,q7,qf⟩:=z8r e5;obtain⟨o7,r7⟩:=hS3.st.res;obtain⟨E7,e7⟩:=z4m r7;rw[G2] at e7;obtain⟨s0,s1,s2,s3,s4,s5,s6,s7,sf⟩:=z8r e7;gi_wp2_with fail
                have st:=hS3.st;rw[GW,GM,GR,G2,G4,GWS] at st;have hgs':=y40 given hk hgap;refine zp1 (o':=o) st rfl (.inl ⟨(0,14),?_,hvf⟩);first
                  |exact hrs
                  |(simp only[Bool.not_and] at hgs'⊢;rw[hgs'];rfl)
          · obtain rfl:k=6:=by omega
            rw[yee given hno,cond_false] at hrs;rw[G4] at e5;obtain⟨q0,q1,q2,q3,q4,q5,q6,q7,qf⟩:=z8r e5;rw[G2] at e7;obtain⟨s0,s1,s2,s3,s4,s5,s6,s7,sf⟩:=z8r e7;gi_wp2_with fail
            have st:=hS.st;rw[GW,GM,GR,G2,G4,GWS] at st;exact zp1 (o':=o) st rfl (.inr ⟨hrs,rfl⟩)
end Go.Lift
