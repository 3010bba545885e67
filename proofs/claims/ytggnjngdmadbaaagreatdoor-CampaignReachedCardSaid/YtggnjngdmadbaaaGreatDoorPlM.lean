/-
  The node after a move, and after all that can be taken (walks).
-/
import Derived.Test.YtggnjngdmadbaaaGreatDoorPlF
import Derived.Test.YtggnjngdmadbaaaGreatDoorYaO
import Derived.Test.YtggnjngdmadbaaaGreatDoorLiftQ
import Derived.ScopeJumps
import Derived.WalkMore
set_option maxRecDepth 100000
set_option maxHeartbeats 2000000
set_option linter.unusedSectionVars false
set_option linter.unusedVariables false
set_option linter.unusedSimpArgs false
namespace Go.Proofs
def Tryz.laysSlE041_f176_ren:Go.Shelf.Ren:=⟨fun|41=>176|n=>n,fun|22=>110|23=>63|4=>4|n=>n,fun|n=>n⟩
theorem Tryz.laysSlE041_f176:Go.Proofs.SlLaysE0.n41 Tryz.prog Tryz.laysSlE041_f176_ren:={
 mixed:=by kernel_rfl
 f41:=⟨Tryz.f176.name,by decide,Tryz.func176.trans (congrArg some (by kernel_rfl))⟩
 t4:=Tryz.underlying4
 a4:=Tryz.isAgg4
 z4:=Tryz.sizeOf4
 v4:=Tryz.zeroValue4
 t22:=Tryz.underlying110
 a22:=Tryz.isAgg110
 z22:=Tryz.sizeOf110
 v22:=Tryz.zeroValue110}
end Go.Proofs
namespace Go.Lift
open Go Go.Proofs Go.RowKit Go.Shelf
attribute [local go_sem] Oper.semAt_some
abbrev TMv:Ty :=.slice z0d
theorem ycw:fits Tryz.prog z0d (.inl 63)=true:=by kernel_rfl
def zpm(M:Mem)(moves:List z0t)(news:List Value):Prop:=news.length=moves.length*2∧∀i (hi:i < moves.length),relC Tryz.prog z0d M moves[i] ((news.drop (i*2)).take 2)
theorem ybv{M:Mem}{w:World}{moves:List z0t}{mv:Value}(hg:Good M w)(h:relV Tryz.prog TMv M moves mv)(hl:moves.length≤1000000):∃news,zpm M moves news∧(∀u∈news,u.oneCell'=true)∧
  ∀W,Below w.heap.size w W→Calls Tryz.prog 176 #[mv] W fun e W'=>∃v',e = .returned v'∧W'.ownsRow W.heap.size 63 2 v' moves.length news∧Below W.heap.size W W':=by
 obtain⟨i0,d0,hi0⟩:=z0l ycw;obtain⟨z,hz,hz1,_⟩:=hi0.zero (by rfl);have hby:=hi0.bytes;have hzs:z.cells.size=2:=by have:=z0u z0d M _ _ (hz1 M);simpa [Ty.size] using this
 obtain⟨v',h1,h2⟩:relC Tryz.prog TMv M moves [mv]:=h;simp only[List.cons.injEq,and_true] at h1;subst h1;have key:∀(a:Addr) (cap:Nat) (news:List Value),zpm M moves news→(∀j u,news[j]?=some u→w.cell? (a.add j)=some u∧a.block < w.heap.size)→(∀u∈news,u.oneCell'=true)→∀W,Below w.heap.size w W→Calls Tryz.prog 176 #[.slice (some a) moves.length cap] W fun e W'=>∃v',e = .returned v'∧W'.ownsRow W.heap.size 63 2 v' moves.length news∧Below W.heap.size W W':=fun a cap news hn hc h1 W hW=>by
  refine Go.Proofs.clone_at Tryz.laysSlE041_f176 i0 z 2 i0.bytes hi0.info hz hi0.size rfl hzs (by decide) (fun w=>z1q hi0 w) a moves.length cap news W hn.1 (by unfold maxLen;omega) ?_ (fun j u hj => ?_) h1
  ·have:moves.length*i0.bytes≤1000000*i0.bytes:=Nat.mul_le_mul_right _ hl;omega
  ·obtain⟨q1,q2⟩:=hc j u hj;refine(World.cell?_of_block ?_).trans q1;have:(a.add j).block=a.block:=by unfold Addr.add;split<;>rfl
   rw[this];exact hW.block _ q2
 have one:∀news:List Value,zpm M moves news→∀u∈news,u.oneCell'=true:=fun news hn u hu=>by
  obtain⟨j,hj,rfl⟩:=List.getElem_of_mem hu;have hi:j / 2 < moves.length:=by have:=hn.1;omega
  have hm:=Nat.mod_add_div j 2;refine zfj z0d _ _ (hn.2 _ hi) _ (List.mem_iff_getElem?.2 ⟨j % 2,?_⟩);rw[List.getElem?_take,if_pos (by omega),List.getElem?_drop,show j / 2*2+j % 2=j by omega,qr hj]
 rcases h2 with⟨rfl,rfl⟩|⟨b,off,cap,cells,rfl,h2,h3,h4,h5⟩|⟨a,cap,rfl,rfl⟩
 ·refine⟨[],⟨rfl,(fun i hi=>by cases hi)⟩,(fun u hu=>by cases hu),fun W hW=>Calls.mono (AnyE.slices_Clone_nil Tryz.laysSlE041_f176 0 0 W) fun e W' he => ?_⟩;obtain⟨rfl,rfl⟩:=he;exact⟨_,rfl,⟨rfl,.inl ⟨rfl,rfl⟩⟩,Below.refl _ _⟩
 ·have hn:zpm M moves cells:=⟨h3,h5⟩
  refine⟨cells,hn,one _ hn,key ⟨b,off,none⟩ cap cells hn (fun j u hj => ?_) (one _ hn)⟩;have:=hg.2 _ _ _ (h4 j u hj);rw[Addr.add_mk];exact⟨this,World.block_lt_of_cell? w ⟨b,off+j,none⟩ this⟩
 ·have hn:zpm M [] []:=⟨rfl,fun i hi=>by cases hi⟩
  exact⟨[],hn,(fun u hu=>by cases hu),key a cap [] hn (fun j u hj=>by simp at hj) (fun u hu=>by cases hu)⟩
end Go.Lift
namespace Go.Lift
open Go Go.Proofs Go.RowKit Go.Shelf
attribute [local go_sem] Oper.semAt_some
theorem zkm{M:Mem}{n:z2w}{v:Value}(h:relV Tryz.prog z0b M n v):∃yv lv mv,v = .agg #[yv,lv,mv,.int .i64 n.2.2.2]∧relV Tryz.prog TYd M n.1 yv∧relV Tryz.prog TWt M n.2.1 lv∧relV Tryz.prog TMv M n.2.2.1 mv:=by
 obtain⟨cs,rfl,h1⟩:∃cs:Array Value,v = .agg cs∧relC Tryz.prog z0b M n cs.toList:=h
 have hl:=z0u z0b M n _ h1;obtain⟨l⟩:=cs;match l,hl,h1 with
 |[a,b,c,d],_,⟨h1,h2,h3,h4⟩=>
  have h4':[d]=[Value.int .i64 n.2.2.2]:=h4;simp only[List.cons.injEq,and_true] at h4';subst h4';exact⟨a,b,c,rfl,h1,h2,h3⟩
theorem zno{M:Mem}{n:z2w}{yv lv mv:Value}(h1:relV Tryz.prog TYd M n.1 yv)(h2:relV Tryz.prog TWt M n.2.1 lv)(h3:relV Tryz.prog TMv M n.2.2.1 mv):relV Tryz.prog z0b M n (.agg #[yv,lv,mv,.int .i64 n.2.2.2]):=
 ⟨_,rfl,h1,h2,h3,rfl⟩
def S131(B b2:Nat)(y:List (List ByteArray))(news:List Value)(k n1:Nat)(m:Int×Int)(yv lv mv:Value)(wk:Int):Nat→Value→World→Prop
 |0,v,_=>v = .pointer (some ⟨b2,0,none⟩)
 |1,v,_=>v=yv
 |2,v,W=>∃rvs,z14 W B v y rvs
 |3,v,_=>v = .pointer (some ⟨b2,1,none⟩)
 |4,v,_=>v=lv
 |5,v,_=>v = .pointer (some ⟨b2,2,none⟩)
 |6,v,_=>v=mv
 |7,v,W=>W.ownsRow B 63 2 v n1 news
 |8,v,_=>v = .agg #[.int .i64 m.1,.int .i64 m.2]
 |9,v,W=>∃g,v = .slice (some ⟨g,0,none⟩) 1 1∧W.heap[g]?=some (.cells #[.int .i64 m.1,.int .i64 m.2] 63 (0,0))∧k≤g
 |10,v,W=>W.ownsRow B 63 2 v (n1+1) (news++[.int .i64 m.1,.int .i64 m.2])
 |11,v,_=>v = .pointer (some ⟨b2,3,none⟩)
 |12,v,_=>v = .int .i64 wk
 |13,v,W=>∃v2 v10 rvs,v = .agg #[v2,lv,v10,.int .i64 wk]∧z14 W B v2 y rvs∧W.ownsRow B 63 2 v10 (n1+1) (news++[.int .i64 m.1,.int .i64 m.2])
 |14,v,W=>∃g,v = .pointer (some ⟨g,0,none⟩)∧B≤g∧W.heap[g]?=some (.cells #[.slice none 0 0,.slice none 0 0,.slice none 0 0,.int .i64 0] 184 (0,0))
 |_,_,_=>True
theorem yf4{B b2 k n1:Nat}{y:List (List ByteArray)}{news:List Value}{m:Int×Int}{yv lv mv:Value}{wk:Int}(j:Nat)(u:Value)(w w':World)(hb:Below w.heap.size w w')(h:S131 B b2 y news k n1 m yv lv mv wk j u w):S131 B b2 y news k n1 m yv lv mv wk j u w':=by
 have hne:∀x:Value,x.ownBlock=none∨x.ownBlock≠none:=fun x=>by cases x.ownBlock<;>simp
 match j,h with
 |0,h=>exact h
 |1,h=>exact h
 |2,⟨rvs,h⟩=>exact⟨rvs,h.kept (below_grown hb)⟩
 |3,h=>exact h
 |4,h=>exact h
 |5,h=>exact h
 |6,h=>exact h
 |7,h=>exact World.ownsRow.kept h (below_grown hb) (hne u)
 |8,h=>exact h
 |9,⟨g,h1,h2,h3⟩=>exact⟨g,h1,(hb.block g (qd.1 h2).1).trans h2,h3⟩
 |10,h=>exact World.ownsRow.kept h (below_grown hb) (hne u)
 |11,h=>exact h
 |12,h=>exact h
 |13,⟨v2,v10,rvs,h1,h2,h3⟩=>exact⟨v2,v10,rvs,h1,h2.kept (below_grown hb),h3.kept (below_grown hb) (hne v10)⟩
 |14,⟨g,h1,h2,h3⟩=>exact⟨g,h1,h2,(hb.block g (qd.1 h3).1).trans h3⟩
 |_+15,_=>trivial
def C131:Nat→Option Nat
 |7=>some 10
 |9=>some 10
 |_=>none
theorem ycp{α:Type}:∀l:List α,l.length=36→∃x0 x1 x2 x3 x4 x5 x6 x7 x8 x9 x10 x11 x12 x13 x14 x15 x16 x17 x18 x19 x20 x21 x22 x23 x24 x25 x26 x27 x28 x29 x30 x31 x32 x33 x34 x35,l=x0::x1::x2::x3::x4::x5::x6::x7::x8::x9::x10::x11::x12::x13::x14::x15::x16::x17::x18::x19::x20::x21::x22::x23::x24::x25::x26::x27::x28::x29::x30::x31::x32::x33::x34::x35::[]
 |x0::x1::x2::x3::x4::x5::x6::x7::x8::x9::x10::x11::x12::x13::x14::x15::x16::x17::x18::x19::x20::x21::x22::x23::x24::x25::x26::x27::x28::x29::x30::x31::x32::x33::x34::x35::[],_=>⟨_,_,_,_,_,_,_,_,_,_,_,_,_,_,_,_,_,_,_,_,_,_,_,_,_,_,_,_,_,_,_,_,_,_,_,_,rfl⟩
theorem u110:Tryz.prog.underlying 110=some (.slice 63):=by kernel_rfl
theorem z14.grown{w w':World}{base:Nat}{v:Value}{ys:List (List ByteArray)}{rvs:List Value}{row:Option Nat}(h:z14 w base v ys rvs)(hg:w.grownBy w' row)(h1:v.ownBlock=none∨v.ownBlock≠row)(h2:∀(r:Value) (m:Nat) (cs:List Value),w.ownsRow base 9 1 r m cs→r.ownBlock=none∨r.ownBlock≠row):z14 w' base v ys rvs:=
 ⟨h.outer.kept hg h1,fun j y hy=>(h.rows j y hy).imp fun r hr=>⟨hr.1,hr.2.kept hg (h2 r _ _ hr.2)⟩,h.apart⟩
theorem zc2{W:World}{g B e s m:Nat}{cur:Array Value}{E:TypeId}{r:Value}{cs:List Value}(hg:W.heap[g]?=some (.cells cur E (0,0)))(he:e≠E)(hr:W.ownsRow B e s r m cs):r.ownBlock=none∨r.ownBlock≠some g:=by
 rcases hr.2 with⟨rfl,_⟩|⟨g0,cap0,cur0,rfl,_,e1,_⟩
 ·exact .inl rfl
 ·refine .inr fun e2 => ?_
  simp only[Value.ownBlock,qb] at e2;subst e2;rw[hg] at e1;simp only[qb,Obj.cells.injEq] at e1;exact he e1.2.1.symm
theorem z14.apart184{W W':World}{B g:Nat}{cur:Array Value}{v:Value}{ys:List (List ByteArray)}{rvs:List Value}(h:z14 W B v ys rvs)(hg:W.heap[g]?=some (.cells cur 184 (0,0)))(hw:W.grownBy W' (some g)):z14 W' B v ys rvs:=
 h.grown hw (zc2 hg (by decide) h.outer) fun r m cs hr=>zc2 hg (by decide) hr
theorem zzt{M:Mem}{l:List ByteArray}{la:Option Addr}{lc:Nat}(h:relV Tryz.prog TWt M l (.slice la l.length lc))(hl:0 < l.length):(lc=1→relV Tryz.prog TWt M l.tail (.slice la (l.length-1) 0))∧relV Tryz.prog TWt M l.tail (.slice (Option.map (fun x=>⟨x.block,x.off+1,none⟩) la) (l.length-1) (lc-1)):=by
 obtain⟨v',h1,h2⟩:relC Tryz.prog TWt M l [_]:=h;simp only[List.cons.injEq,and_true] at h1;subst h1;rcases h2 with⟨_,rfl⟩|⟨b,off,cap,cells,e,h2,h3,h4,h5⟩|⟨a,cap,_,rfl⟩
 ·cases hl
 ·simp only[Value.slice.injEq] at e;obtain⟨rfl,_,rfl⟩:=e;refine⟨fun e=>⟨_,rfl,.inr (.inr ⟨⟨b,off,none⟩,0,?_,?_⟩)⟩,⟨_,rfl,.inr (.inl ⟨b,off+1,lc-1,cells.drop 1,?_,?_,?_,?_,?_⟩)⟩⟩
  ·rw[show l.length-1=0 by omega]
  ·exact List.eq_nil_of_length_eq_zero (by rw[List.length_tail];omega)
  ·rw[List.length_tail];rfl
  ·rw[List.length_tail];omega
  ·rw[List.length_drop,List.length_tail,h3];simp[Ty.size]
  ·intro j u hj;rw[List.getElem?_drop] at hj;have:=h4 (1+j) u hj;rwa [show off+(1+j)=off+1+j by omega] at this
  ·intro i hi;rw[List.length_tail] at hi;have:=h5 (i+1) (by omega);rw[List.drop_drop];rw[List.getElem_tail];have e:1+i*Ty.str.size=(i+1)*Ty.str.size:=by show 1+i*1=(i+1)*1;omega
   rw[e];exact this
 ·cases hl
theorem y8g{M M':Mem}{W:World}{B n1:Nat}{moves:List z0t}{news:List Value}{m:z0t}{v:Value}(hm:zpm M moves news)(hle:Mem.le M M')(hM':M'=z7a B M W)(h:W.ownsRow B 63 2 v (moves.length+1) (news++[.int .i64 m.1,.int .i64 m.2])):relV Tryz.prog TMv M' (moves++[m]) v:=by
 subst hM';refine⟨v,rfl,?_⟩;rcases h.2 with⟨_,h2⟩|⟨g,cap,cur,h1,hb,hg,hnc,_⟩
 ·omega
 ·subst h1;obtain⟨h3,h4⟩:=y17 (M:=M) h;refine .inr (.inl ⟨g,0,cap,news++[.int .i64 m.1,.int .i64 m.2],by rw[qe,qj],by rw[qe,qj];exact h4,?_,h3,fun i hi => ?_⟩)
  ·rw[h.1,qe,qj];rfl
  ·rw[qe,qj] at hi;show relC Tryz.prog z0d _ _ (((news++[Value.int .i64 m.1,Value.int .i64 m.2]).drop (i*2)).take 2);by_cases hlt:i < moves.length
   ·have h5:=hm.2 i hlt;have hl:=hm.1;rw[List.getElem_append_left hlt,List.drop_append_of_le_length (by omega),List.take_append_of_le_length (by rw[List.length_drop];omega)];exact z4s z0d hle _ _ h5
   ·have hi2:i=moves.length:=by omega
    subst hi2;have hl:=hm.1;rw[List.getElem_append_right (ql _),List.drop_append,List.drop_of_length_le (by omega),show moves.length*2-news.length=0 by omega];simp only[Nat.sub_self,List.getElem_cons_zero,List.drop_zero,List.nil_append];exact⟨rfl,rfl⟩
theorem y27:fits Tryz.prog z0b (.inl 184)=true:=by kernel_rfl
theorem y50{M:Mem}{tmps:Array Value}{W:World}{h:Nat}{cs:Array Value}{n:z2w}(h2:tmps.getD 4 undef = .pointer (some ⟨h,0,none⟩))(hb:W.heap[h]?=some (.cells cs 184 (0,0)))(hr:relC Tryz.prog z0b M n cs.toList) :
  (Go.results Tryz.f131 tmps).run Tryz.prog W = .ok (.agg cs) W:=by
 obtain⟨i,d,hi⟩:=z0l y27;have hl:(loadVar 184 ⟨h,0,none⟩).run Tryz.prog W = .ok (z6o z0b cs.toList) W:=z9m hi hr (fun j u hj=>by
  rw[Nat.zero_add];exact z06 hb (by simpa using hj))
 have hrs:Tryz.f131.results = #[.cell 4 184]:=by kernel_rfl
 have ho:z6o z0b cs.toList = .agg cs:=rfl;rw[ho] at hl;simp only[Go.results,hrs,Sem.run_bind,List.mapM_toArray,List.mapM_cons,List.mapM_nil,h2,asAddr,Sem.run_pure,Result.andThen_ok,hl,Sem.run_map];rfl
theorem za1{w:World}{g off:Nat}{cur:Array Value}{E:TypeId}{v:Value}(h:w.heap[g]?=some (.cells cur E (0,0))):(w.setCell ⟨g,off,none⟩ v).heap[g]?=some (.cells (cur.setIfInBounds off v) E (0,0)):=by
 simp[World.setCell,Array.getElem?_modify,h]
theorem z6n{w:World}{g off:Nat}{v:Value}:w.grownBy (w.setCell ⟨g,off,none⟩ v) (some g):=
 ⟨rfl,rfl,rfl,by simp[World.setCell],fun k _ hk=>by
  have:g≠k:=fun e=>hk (by rw[e])
  simp[World.setCell,Array.getElem?_modify,this]⟩
theorem set4{w:World}{g:Nat}{a0 a1 a2 a3 v0 v1 v2 v3:Value}{E:TypeId}(h:w.heap[g]?=some (.cells #[a0,a1,a2,a3] E (0,0))) :
  ((((w.setCell ⟨g,0,none⟩ v0).setCell ⟨g,1,none⟩ v1).setCell ⟨g,2,none⟩ v2).setCell ⟨g,3,none⟩ v3).heap[g]?=some (.cells #[v0,v1,v2,v3] E (0,0))∧w.grownBy ((((w.setCell ⟨g,0,none⟩ v0).setCell ⟨g,1,none⟩ v1).setCell ⟨g,2,none⟩ v2).setCell ⟨g,3,none⟩ v3) (some g):=
 ⟨za1 (za1 (za1 (za1 h))),((z6n.trans z6n).trans z6n).trans z6n⟩
theorem y5h{M:Mem}{w:World}(hg:Good M w){n:z2w}{m:z0t}{yv lv mv:Value}{ns:List (List ByteArray)}(hy:relV Tryz.prog TYd M n.1 yv)(hl:relV Tryz.prog TWt M n.2.1 lv)(hmv:relV Tryz.prog TMv M n.2.2.1 mv)(hok:zv0 n m=true)(hn:zco n.1 m=some ns) :
  Calls Tryz.prog 131 #[.agg #[yv,lv,mv,.int .i64 n.2.2.2],.agg #[.int .i64 m.1,.int .i64 m.2]] w fun e w'=>∃M' u,e = .returned u∧relV Tryz.prog z0b M' (ns,bif m.2 == -1 then n.2.1.drop 1 else n.2.1,n.2.2.1++[m],bif m.2 == -1 then n.2.2.2 else wi64 (n.2.2.2+1)) u∧Good M' w'∧Grow M w M' w':=by
 obtain⟨w1,hw1⟩:∃w1,w.alloc (.cells #[yv,lv,mv,.int .i64 n.2.2.2] 184)=w1:=⟨_,rfl⟩
 obtain⟨w2,hw2⟩:∃w2,w1.alloc (.cells #[.int .i64 m.1,.int .i64 m.2] 63)=w2:=⟨_,rfl⟩
 obtain⟨w3,hw3⟩:∃w3,w2.alloc (.cells #[.slice none 0 0,.slice none 0 0,.slice none 0 0,.int .i64 0] 184)=w3:=⟨_,rfl⟩
 have z1:w1.heap.size=w.heap.size+1:=by rw[←hw1,World.size_alloc]
 have z2:w2.heap.size=w.heap.size+2:=by rw[←hw2,World.size_alloc,z1]
 have z3:w3.heap.size=w.heap.size+3:=by rw[←hw3,World.size_alloc,z2]
 have hb3:Below w.heap.size w w3:=by
  rw[←hw3,←hw2,←hw1];exact(((Below.refl _ w).alloc (ql _) _).alloc (by rw[World.size_alloc];omega) _).alloc (by rw[World.size_alloc,World.size_alloc];omega) _
 have hg3:Good M w3:=z0k hg hb3;have c1:w3.heap[w.heap.size]?=some (.cells #[yv,lv,mv,.int .i64 n.2.2.2] 184 (0,0)):=by
  rw[←hw3,z3x w2 _ _ (by omega),←hw2,z3x w1 _ _ (by omega),←hw1];exact World.alloc_heap_new w _
 have c2:w3.heap[w.heap.size+1]?=some (.cells #[.int .i64 m.1,.int .i64 m.2] 63 (0,0)):=by
  rw[←hw3,z3x w2 _ _ (by omega),←hw2,←z1];exact World.alloc_heap_new w1 _
 have c3:w3.heap[w.heap.size+2]?=some (.cells #[.slice none 0 0,.slice none 0 0,.slice none 0 0,.int .i64 0] 184 (0,0)):=by
  rw[←hw3,←z2];exact World.alloc_heap_new w2 _
 have cell:∀(W:World),Below w3.heap.size w3 W→W.heap[w.heap.size]?=some (.cells #[yv,lv,mv,.int .i64 n.2.2.2] 184 (0,0))∧W.heap[w.heap.size+1]?=some (.cells #[.int .i64 m.1,.int .i64 m.2] 63 (0,0)):=fun W hW=>⟨(hW.block _ (by omega)).trans c1,(hW.block _ (by omega)).trans c2⟩
 unfold zv0 at hok;simp only[qg,decide_eq_true_eq] at hok;obtain⟨⟨⟨⟨⟨⟨o1,o2⟩,o3⟩,o4⟩,o5⟩,o6⟩,o7⟩:=hok;have hW:zce n.1=true:=by
  unfold zce;rw[o6,Bool.and_true];exact z01 o5
 obtain⟨hyl,hyr⟩:=zcd hW;obtain⟨b,off,cap,rfl,hrows⟩:=ziw hy (by omega);obtain⟨la,lc,rfl⟩:=zm5 hl;obtain⟨news,hmc,hone,h176⟩:=ybv hg3 (z18 (Mem.le_refl _) hmv) o7;have h148:∀W,Below w3.heap.size w3 W→Calls Tryz.prog 148 #[.slice (some ⟨b,off,none⟩) n.1.length cap] W fun e W'=>∃v rvs,e = .returned v∧z14 W' w3.heap.size v n.1 rvs∧Below W.heap.size W W':=fun W hW=>by
  refine(y4b (z0k hg3 hW) hyl (fun j q hj => ?_)).mono fun e W' => ?_
  ·obtain⟨r,q1,q2⟩:=hrows j q hj;exact⟨r,(z0k hg3 hW).2 _ _ _ q1,q2,by have:=hyr q (List.mem_of_getElem? hj);omega⟩
  ·rintro⟨v,rvs,h1,h2,h3⟩;exact⟨v,rvs,h1,h2.base hW.size,h3⟩
 obtain⟨i0,d0,hi0⟩:=z0l ycw;obtain⟨z,hz,hz1,_⟩:=hi0.zero (by rfl);have hby:=hi0.bytes;have hzs:z.cells.size=2:=by have:=z0u z0d M _ _ (hz1 M);simpa [Ty.size] using this
 go_enter Tryz.func131,Tryz.ntmps131
 go_wp2
 refine y4i (by kernel_rfl) (c:=15) (by kernel_rfl) (by kernel_rfl) rfl rfl (by kernel_rfl) (S131 w3.heap.size w.heap.size n.1 news w3.heap.size n.2.2.1.length m (.slice (some ⟨b,off,none⟩) n.1.length cap) (.slice la n.2.1.length lc) mv n.2.2.2) C131 (fun W=>Below w3.heap.size w3 W) (fun _=>True) 0 ⟨rfl,rfl,rfl,ql _,fun _ _=>rfl⟩ trivial (fun _ _ _ _=>trivial) (zmm (by kernel_rfl)) (fun W W' hb h=>h.trans ⟨hb.os,hb.tape,hb.output,hb.size,fun j hj=>hb.block j (Nat.lt_of_lt_of_le hj h.size)⟩) (fun j u W W'=>yf4 j u W W') ?step ?fin
 case step=>
  intro k o hk ho a W hJ hs hd hfr hS _;obtain⟨⟨l⟩,df⟩:=a;simp only at hd;subst hd;obtain⟨x0,x1,x2,x3,x4,x5,x6,x7,x8,x9,x10,x11,x12,x13,x14,x15,x16,x17,x18,x19,x20,x21,x22,x23,x24,x25,x26,x27,x28,x29,x30,x31,x32,x33,x34,x35,rfl⟩:=ycp l hs
  ·skip
   have e2:x2 = .pointer (some ⟨w.heap.size,0,none⟩):=hfr 2 (by decide);have e3:x3 = .pointer (some ⟨w.heap.size+1,0,none⟩):=hfr 3 (by decide);subst e2 e3;obtain⟨d1,d2⟩:=cell W hJ;have k0:W.cell? ⟨w.heap.size,0,none⟩=some (.slice (some ⟨b,off,none⟩) n.1.length cap):=z06 d1 rfl;have k1:W.cell? ⟨w.heap.size,1,none⟩=some (.slice la n.2.1.length lc):=z06 d1 rfl;have k2:W.cell? ⟨w.heap.size,2,none⟩=some mv:=z06 d1 rfl;have k3:W.cell? ⟨w.heap.size,3,none⟩=some (.int .i64 n.2.2.2):=z06 d1 rfl;have k4:W.cell? ⟨w.heap.size+1,0,none⟩=some (.int .i64 m.1):=z06 d2 rfl;have k5:W.cell? ⟨w.heap.size+1,1,none⟩=some (.int .i64 m.2):=z06 d2 rfl;match k,hk,ho with
   |0,_,ho=>
    cases ho;refine wpOp_step rfl fun K' hK => ?_
    go_simp;exact hK _ _ ⟨_,rfl,fun _=>rfl,.inl (Below.refl _ _)⟩
   |1,_,ho=>
    cases ho;have e:x6=_:=hS 0 _ 6 rfl rfl rfl (.inl rfl);subst e;refine wpOp_step rfl fun K' hK => ?_
    go_simp;exact hK _ _ ⟨_,rfl,fun _=>rfl,.inl (Below.refl _ _)⟩
   |2,_,ho=>
    cases ho;have e:x7=_:=hS 1 _ 7 rfl rfl rfl (.inl rfl);subst e;refine wpOp_step rfl fun K' hK => ?_
    go_simp;go_wp2_with (go_at_call 148;refine(h148 W hJ).mono ?_;rintro e W' ⟨v,rvs,rfl,hY,hb⟩)
    exact⟨_,rfl,fun _=>⟨rvs,hY⟩,.inl hb⟩
   |3,_,ho=>
    cases ho;refine wpOp_step rfl fun K' hK => ?_
    go_simp;exact hK _ _ ⟨_,rfl,fun _=>rfl,.inl (Below.refl _ _)⟩
   |4,_,ho=>
    cases ho;have e:x9=_:=hS 3 _ 9 rfl rfl rfl (.inl rfl);subst e;refine wpOp_step rfl fun K' hK => ?_
    go_simp;exact hK _ _ ⟨_,rfl,fun _=>rfl,.inl (Below.refl _ _)⟩
   |5,_,ho=>
    cases ho;refine wpOp_step rfl fun K' hK => ?_
    go_simp;exact hK _ _ ⟨_,rfl,fun _=>rfl,.inl (Below.refl _ _)⟩
   |6,_,ho=>
    cases ho;have e:x11=_:=hS 5 _ 11 rfl rfl rfl (.inl rfl);subst e;refine wpOp_step rfl fun K' hK => ?_
    go_simp;exact hK _ _ ⟨_,rfl,fun _=>rfl,.inl (Below.refl _ _)⟩
   |7,_,ho=>
    cases ho;have e:x12=_:=hS 6 _ 12 rfl rfl rfl (.inl rfl);subst e;refine wpOp_step rfl fun K' hK => ?_
    go_simp;go_wp2_with (go_at_call 176;refine(h176 W hJ).mono ?_;rintro e W' ⟨v,rfl,hv,hb⟩)
    exact⟨_,rfl,fun _=>zkj hv hJ.size,.inl hb⟩
   |8,_,ho=>
    cases ho;refine wpOp_step rfl fun K' hK => ?_
    go_simp;exact hK _ _ ⟨_,rfl,fun _=>rfl,.inl (Below.refl _ _)⟩
   |9,_,ho=>
    cases ho;have e:x14=_:=hS 8 _ 14 rfl rfl rfl (.inl rfl);subst e;refine wpOp_step rfl fun K' hK => ?_
    go_simp;exact hK _ _ ⟨_,rfl,fun _=>⟨W.heap.size,rfl,World.alloc_heap_new W _,hJ.size⟩,.inl ((Below.refl _ _).alloc (ql _) _)⟩
   | 10,_,ho=>
    cases ho;have h13:W.ownsRow w3.heap.size 63 2 x13 n.2.2.1.length news:=hS 7 _ 13 rfl rfl rfl (.inr rfl);obtain⟨g,e,hg9,_⟩:∃g,x15 = .slice (some ⟨g,0,none⟩) 1 1∧W.heap[g]?=some (.cells #[.int .i64 m.1,.int .i64 m.2] 63 (0,0))∧w3.heap.size≤g:=hS 9 _ 15 rfl rfl rfl (.inr rfl)
    subst e;obtain⟨v',W',hrun,q1,q2,q3,q4⟩:=run_append_own_at (P:=Tryz.prog) W w3.heap.size 110 110 63 i0 z 2 i0.bytes u110 hi0.info hz hi0.size rfl hzs (by decide) x13 n.2.2.1.length news h13 ⟨g,0,none⟩ 1 1 [.int .i64 m.1,.int .i64 m.2] rfl (fun j u hj=>by
     rw[Addr.add_mk,Nat.zero_add];match j,hj with
     |0,hj=>exact(z06 hg9 rfl).trans hj
     |1,hj=>exact(z06 hg9 rfl).trans hj
     |_+2,hj=>simp at hj) (by intro u hu;simp only[List.mem_cons,List.not_mem_nil,or_false] at hu;rcases hu with rfl|rfl<;>rfl) (by unfold maxLen;omega) (by
     have:=Nat.mul_le_mul (show n.2.2.1.length+1≤1000001 by omega) hby;omega) hJ.size
    refine wpOp_step rfl fun K' hK=>zae rfl (.tmp 13) (.tmp 15) 110 rfl x13 (.slice (some ⟨g,0,none⟩) 1 1) v' rfl rfl hrun (hK _ _ ⟨v',rfl,fun _=>q1,.inr ⟨?_,fun _ _=>trivial,fun j oj u hj hj1 hj2 hj3 hs => ?_⟩⟩)
    ·refine hJ.grown q2 hJ.size fun k hk => ?_
     exact(h13.lt k hk).1
    ·have kY:∀(u:Value) (rvs:List Value),z14 W w3.heap.size u n.1 rvs→z14 W' w3.heap.size u n.1 rvs:=fun u rvs hY=>hY.grown q2 (z9s h13 hY.outer (by decide)) fun r m cs hr=>z9s h13 hr (by decide)
     match j,hj,hj1,hj2,hj3,hs with
     |0,_,_,_,_,hs=>exact hs
     |1,_,_,_,_,hs=>exact hs
     |2,_,_,_,_,⟨rvs,hY⟩=>exact⟨rvs,kY _ _ hY⟩
     |3,_,_,_,_,hs=>exact hs
     |4,_,_,_,_,hs=>exact hs
     |5,_,_,_,_,hs=>exact hs
     |6,_,_,_,_,hs=>exact hs
     |7,_,_,h2,_,_=>exact absurd rfl h2
     |8,_,_,_,_,hs=>exact hs
     |9,_,_,h2,_,_=>exact absurd rfl h2
     |10,_,h1,_,_,_=>exact absurd rfl h1
     |11,_,_,_,_,hs=>exact hs
     |12,_,_,_,_,hs=>exact hs
     |13,hj,_,_,h3,_=>cases hj;exact absurd h3 (by decide)
     | 14,_,_,_,_,⟨g',a1,a2,a3⟩=>
      refine⟨g',a1,a2,(q2.block g' (qd.1 a3).1 fun e => ?_).trans a3⟩;rcases h13.2 with⟨e0,_⟩|⟨g0,cap0,cur0,e0,_,e1,_⟩
      ·rw[e0] at e;cases e
      ·rw[e0] at e;simp only[Value.ownBlock,qb] at e;rw[e] at a3;rw[a3] at e1;simp at e1
     |_+15,_,_,_,_,_=>trivial
   |11,_,ho=>
    cases ho;refine wpOp_step rfl fun K' hK => ?_
    go_simp;exact hK _ _ ⟨_,rfl,fun _=>rfl,.inl (Below.refl _ _)⟩
   |12,_,ho=>
    cases ho;have e:x17=_:=hS 11 _ 17 rfl rfl rfl (.inl rfl);subst e;refine wpOp_step rfl fun K' hK => ?_
    go_simp;exact hK _ _ ⟨_,rfl,fun _=>rfl,.inl (Below.refl _ _)⟩
   |13,_,ho=>
    cases ho;obtain⟨rvs,hY⟩:∃rvs,z14 W w3.heap.size x8 n.1 rvs:=hS 2 _ 8 rfl rfl rfl (.inl rfl)
    have e:x10=_:=hS 4 _ 10 rfl rfl rfl (.inl rfl);subst e;have h16:W.ownsRow w3.heap.size 63 2 x16 (n.2.2.1.length+1) (news++[.int .i64 m.1,.int .i64 m.2]):=hS 10 _ 16 rfl rfl rfl (.inl rfl);have e:x18=_:=hS 12 _ 18 rfl rfl rfl (.inl rfl);subst e;obtain⟨p8,n8,c8,e8⟩:=zak hY.outer;subst e8;obtain⟨p16,n16,c16,e16⟩:=zak h16;subst e16;refine wpOp_step rfl fun K' hK => ?_
    go_simp;exact hK _ _ ⟨_,rfl,fun _=>⟨_,_,rvs,rfl,hY,h16⟩,.inl (Below.refl _ _)⟩
   |14,_,ho=>
    cases ho;refine wpOp_step rfl fun K' hK => ?_
    go_simp;exact hK _ _ ⟨_,rfl,fun _=>⟨W.heap.size,rfl,hJ.size,World.alloc_heap_new W _⟩,.inl ((Below.refl _ _).alloc (ql _) _)⟩
   |_+15,hk,_=>omega
 case fin=>
  intro a W hJ hs hd hfr hS;obtain⟨⟨l⟩,df⟩:=a;simp only at hd;subst hd;obtain⟨x0,x1,x2,x3,x4,x5,x6,x7,x8,x9,x10,x11,x12,x13,x14,x15,x16,x17,x18,x19,x20,x21,x22,x23,x24,x25,x26,x27,x28,x29,x30,x31,x32,x33,x34,x35,rfl⟩:=ycp l hs;have e2:x2 = .pointer (some ⟨w.heap.size,0,none⟩):=hfr 2 (by decide);have e3:x3 = .pointer (some ⟨w.heap.size+1,0,none⟩):=hfr 3 (by decide);have e4:x4 = .pointer (some ⟨w.heap.size+2,0,none⟩):=hfr 4 (by decide);subst e2 e3 e4;obtain⟨d1,d2⟩:=cell W hJ;have k4:W.cell? ⟨w.heap.size+1,0,none⟩=some (.int .i64 m.1):=z06 d2 rfl;have k5:W.cell? ⟨w.heap.size+1,1,none⟩=some (.int .i64 m.2):=z06 d2 rfl;obtain⟨v2,v10,rvs,e19,hY,hM⟩:∃v2 v10 rvs,x19 = .agg #[v2,.slice la n.2.1.length lc,v10,.int .i64 n.2.2.2]∧z14 W w3.heap.size v2 n.1 rvs∧W.ownsRow w3.heap.size 63 2 v10 (n.2.2.1.length+1) (news++[Value.int .i64 m.1,Value.int .i64 m.2]):=hS 13 _ 19 (by decide) rfl rfl rfl
  obtain⟨g,e5,hgB,hgc⟩:∃g,x5 = .pointer (some ⟨g,0,none⟩)∧w3.heap.size≤g∧W.heap[g]?=some (.cells #[.slice none 0 0,.slice none 0 0,.slice none 0 0,.int .i64 0] 184 (0,0)):=hS 14 _ 5 (by decide) rfl rfl rfl
  subst e19 e5;obtain⟨p2,n2,c2',e2⟩:=zak hY.outer;subst e2;obtain⟨p10,n10,c10,e10⟩:=zak hM;subst e10;have g0:W.cell? ⟨g,0,none⟩=some (.slice none 0 0):=z06 hgc rfl;have g1:W.cell? ⟨g,1,none⟩=some (.slice none 0 0):=z06 hgc rfl;have g2:W.cell? ⟨g,2,none⟩=some (.slice none 0 0):=z06 hgc rfl;have g3:W.cell? ⟨g,3,none⟩=some (.int .i64 0):=z06 hgc rfl;have gf:∀off,W.frozen? ⟨g,off,none⟩=false:=fun off=>z2m hgc
  obtain⟨W5,hW5⟩:∃W5,(((W.setCell ⟨g,0,none⟩ (.slice p2 n2 c2')).setCell ⟨g,1,none⟩ (.slice la n.2.1.length lc)).setCell ⟨g,2,none⟩ (.slice p10 n10 c10)).setCell ⟨g,3,none⟩ (.int .i64 n.2.2.2)=W5:=⟨_,rfl⟩
  have hset:=set4 (v0 :=.slice p2 n2 c2') (v1 :=.slice la n.2.1.length lc) (v2 :=.slice p10 n10 c10) (v3 :=.int .i64 n.2.2.2) hgc;rw[hW5] at hset;obtain⟨s1,s2⟩:=hset;have hB5:Below w3.heap.size w3 W5:=hJ.grown s2 hJ.size fun k hk=>by cases hk;exact hgB
  have hnk:∀(r:Value) (e:Nat) (s m:Nat) (cs:List Value),e≠184→W.ownsRow w3.heap.size e s r m cs→r.ownBlock=none∨r.ownBlock≠some g:=fun r e s m cs he hr=>by
   rcases hr.2 with⟨rfl,_⟩|⟨g0,cap0,cur0,rfl,_,e1,_⟩
   ·exact .inl rfl
   ·refine .inr fun e2 => ?_
    simp only[Value.ownBlock,qb] at e2;subst e2;rw[hgc] at e1;simp only[qb,Obj.cells.injEq] at e1;exact he e1.2.1.symm
  have hY5:z14 W5 w3.heap.size (.slice p2 n2 c2') n.1 rvs:=hY.grown s2 (hnk _ 61 1 _ _ (by decide) hY.outer) fun r m cs hr=>hnk _ 9 1 _ _ (by decide) hr
  have hM5:W5.ownsRow w3.heap.size 63 2 (.slice p10 n10 c10) (n.2.2.1.length+1) (news++[.int .i64 m.1,.int .i64 m.2]):=hM.kept s2 (hnk _ 63 2 _ _ (by decide) hM);obtain⟨i,p,e1,e2,hpp⟩:=zx7 (l:=n.1) [] (z0q (z01 o1) (z01 o2));rw[hpp] at o3;have hto:m.2 = -1∧0 < n.2.1.length∨∃(k:Nat) (q:List ByteArray),m.2=(k:Int)∧n.1[k]?=some q∧i≠k:=by
   cases hm:m.2 == -1 with
   |true=>
    rw[hm,cond_true,decide_eq_true_eq] at o4;exact .inl ⟨by simpa using hm,o4⟩
   |false=>
    rw[hm,cond_false,qg,qg,decide_eq_true_eq,decide_eq_true_eq,bne_iff_ne] at o4;obtain⟨k,q,f1,f2,_⟩:=zx7 (l:=n.1) [] (z0q (z01 o4.1.1) (z01 o4.1.2));exact .inr ⟨k,q,f1,f2,fun e=>o4.2 (by rw[e1,f1,e])⟩
  have h102:=zsd hY5 hB5.size hW e1 e2 o3 (hto.imp And.left id) hn;have after:∀W6:World,Outside (.slice p2 n2 c2') rvs W5 W6→W6.heap[w.heap.size+1]?=some (.cells #[.int .i64 m.1,.int .i64 m.2] 63 (0,0))∧W6.heap[w.heap.size+2]?=some (.cells #[.slice none 0 0,.slice none 0 0,.slice none 0 0,.int .i64 0] 184 (0,0))∧W6.heap[g]?=some (.cells #[.slice p2 n2 c2',.slice la n.2.1.length lc,.slice p10 n10 c10,.int .i64 n.2.2.2] 184 (0,0))∧W6.ownsRow w3.heap.size 63 2 (.slice p10 n10 c10) (n.2.2.1.length+1) (news++[.int .i64 m.1,.int .i64 m.2])∧Below w3.heap.size w3 W6:=fun W6 ho=>by
   have hB6:=hB5.trans (zaz hY5 hB5.size ho);have keepT:∀(k e:Nat) (cs:Array Value),W5.heap[k]?=some (.cells cs e (0,0))→e≠61→e≠9→W6.heap[k]?=some (.cells cs e (0,0)):=fun k e cs hk he1 he2=>by
    refine(ho.block k (qd.1 hk).1 (fun e => ?_) fun r hr e => ?_).trans hk
    ·rcases hY5.outer.2 with⟨h0,_⟩|⟨g0,cap0,cur0,h0,_,h1,_⟩
     ·rw[h0] at e;cases e
     ·rw[h0] at e;simp only[Value.ownBlock,qb] at e;rw[←e,hk] at h1;simp only[qb,Obj.cells.injEq] at h1;exact he1 h1.2.1
    ·obtain⟨j,hj,rfl⟩:=List.mem_iff_getElem.1 hr;have hll:rvs.length=n.1.length:=by have:=hY5.outer.1;omega
     obtain⟨r,h1,h2⟩:=hY5.rows j n.1[j] (qr (by omega));rw[qr hj,qb] at h1;rw[←h1] at h2;rcases h2.2 with⟨h0,_⟩|⟨g0,cap0,cur0,h0,_,h1,_⟩
     ·rw[h0] at e;cases e
     ·rw[h0] at e;simp only[Value.ownBlock,qb] at e;rw[←e,hk] at h1;simp only[qb,Obj.cells.injEq] at h1;exact he2 h1.2.1
   refine⟨(hB6.block _ (by omega)).trans c2,(hB6.block _ (by omega)).trans c3,keepT g 184 _ s1 (by decide) (by decide),?_,hB6⟩;refine⟨hM5.1,?_⟩;rcases hM5.2 with h0|⟨g0,cap0,cur0,h0,h1,h2,h3⟩
   ·exact .inl h0
   ·exact .inr ⟨g0,cap0,cur0,h0,h1,keepT g0 63 _ h2 (by decide) (by decide),h3⟩
  have m4:W5.cell? ⟨w.heap.size+1,0,none⟩=some (.int .i64 m.1):=z06 ((hB5.block _ (by omega)).trans c2) rfl;have m5:W5.cell? ⟨w.heap.size+1,1,none⟩=some (.int .i64 m.2):=z06 ((hB5.block _ (by omega)).trans c2) rfl;have m6:W5.cell? ⟨g,0,none⟩=some (.slice p2 n2 c2'):=z06 s1 rfl;have finish:∀(W7:World) (lv':Value) (left':List ByteArray) (wk':Int) (rvs':List Value),Below w.heap.size w W7→z14 W7 w3.heap.size (.slice p2 n2 c2') ns rvs'→W7.ownsRow w3.heap.size 63 2 (.slice p10 n10 c10) (n.2.2.1.length+1) (news++[.int .i64 m.1,.int .i64 m.2])→relV Tryz.prog TWt M left' lv'→
    W7.heap[w.heap.size+2]?=some (.cells #[.slice p2 n2 c2',lv',.slice p10 n10 c10,.int .i64 wk'] 184 (0,0))→∃M',relV Tryz.prog z0b M' (ns,left',n.2.2.1++[m],wk') (.agg #[.slice p2 n2 c2',lv',.slice p10 n10 c10,.int .i64 wk'])∧Good M' W7∧Grow M w M' W7∧
    ∀tmps:Array Value,tmps.getD 4 undef = .pointer (some ⟨w.heap.size+2,0,none⟩)→(Go.results Tryz.f131 tmps).run Tryz.prog W7 = .ok (.agg #[.slice p2 n2 c2',lv',.slice p10 n10 c10,.int .i64 wk']) W7:=fun W7 lv' left' wk' rvs' hBw hY7 hM7 hl7 hc7=>by
   have hg7:Good M W7:=z0k hg hBw;have hle:Mem.le M (z7a w.heap.size M W7):=zv8 hg7;have hrel:relC Tryz.prog z0b (z7a w.heap.size M W7) (ns,left',n.2.2.1++[m],wk') [.slice p2 n2 c2',lv',.slice p10 n10 c10,.int .i64 wk']:=
    ⟨(hY7.base hb3.size).rel,z18 hle hl7,y8g (B:=w.heap.size) (W:=W7) (n1:=0) hmc hle rfl (zkj hM7 hb3.size),rfl⟩
   exact⟨_,⟨_,rfl,hrel⟩,zcq hg7,zfo hBw,fun tmps ht=>y50 ht hc7 hrel⟩
  have last:∀(W6:World) (rvs':List Value) (o:Nat) (x lv':Value) (wk':Int) (left':List ByteArray),Below w3.heap.size w3 W6→z14 W6 w3.heap.size (.slice p2 n2 c2') ns rvs'→W6.ownsRow w3.heap.size 63 2 (.slice p10 n10 c10) (n.2.2.1.length+1) (news++[.int .i64 m.1,.int .i64 m.2])→relV Tryz.prog TWt M left' lv'→
    W6.heap[w.heap.size+2]?=some (.cells #[.slice none 0 0,.slice none 0 0,.slice none 0 0,.int .i64 0] 184 (0,0))→(∃cs,W6.heap[g]?=some (.cells cs 184 (0,0)))→∃M',relV Tryz.prog z0b M' (ns,left',n.2.2.1++[m],wk') (.agg #[.slice p2 n2 c2',lv',.slice p10 n10 c10,.int .i64 wk'])∧
     Good M' (((((W6.setCell ⟨g,o,none⟩ x).setCell ⟨w.heap.size+2,0,none⟩ (.slice p2 n2 c2')).setCell ⟨w.heap.size+2,1,none⟩ lv').setCell ⟨w.heap.size+2,2,none⟩ (.slice p10 n10 c10)).setCell ⟨w.heap.size+2,3,none⟩ (.int .i64 wk'))∧
     Grow M w M' (((((W6.setCell ⟨g,o,none⟩ x).setCell ⟨w.heap.size+2,0,none⟩ (.slice p2 n2 c2')).setCell ⟨w.heap.size+2,1,none⟩ lv').setCell ⟨w.heap.size+2,2,none⟩ (.slice p10 n10 c10)).setCell ⟨w.heap.size+2,3,none⟩ (.int .i64 wk'))∧
     ∀tmps:Array Value,tmps.getD 4 undef = .pointer (some ⟨w.heap.size+2,0,none⟩)→(Go.results Tryz.f131 tmps).run Tryz.prog (((((W6.setCell ⟨g,o,none⟩ x).setCell ⟨w.heap.size+2,0,none⟩ (.slice p2 n2 c2')).setCell ⟨w.heap.size+2,1,none⟩ lv').setCell ⟨w.heap.size+2,2,none⟩ (.slice p10 n10 c10)).setCell ⟨w.heap.size+2,3,none⟩ (.int .i64 wk')) = .ok (.agg #[.slice p2 n2 c2',lv',.slice p10 n10 c10,.int .i64 wk']) (((((W6.setCell ⟨g,o,none⟩ x).setCell ⟨w.heap.size+2,0,none⟩ (.slice p2 n2 c2')).setCell ⟨w.heap.size+2,1,none⟩ lv').setCell ⟨w.heap.size+2,2,none⟩ (.slice p10 n10 c10)).setCell ⟨w.heap.size+2,3,none⟩ (.int .i64 wk')):=fun W6 rvs' o x lv' wk' left' hB6 hY6 hM6 hl6 hc6 ⟨cs,hg6⟩=>by
   have hne:some (w.heap.size+2)≠some g:=by simp only[ne_eq,qb];omega
   obtain⟨A,hA⟩:∃A,W6.setCell ⟨g,o,none⟩ x=A:=⟨_,rfl⟩
   have gA:W6.grownBy A (some g):=by rw[←hA];exact z6n
   have yA:=hY6.apart184 hg6 gA;have mA:=hM6.kept gA (zc2 hg6 (by decide) hM6);have cA:A.heap[w.heap.size+2]?=some (.cells #[.slice none 0 0,.slice none 0 0,.slice none 0 0,.int .i64 0] 184 (0,0)):=(gA.block _ (qd.1 hc6).1 hne).trans hc6;rw[hA];obtain⟨cB,gB⟩:=set4 (v0 :=.slice p2 n2 c2') (v1:=lv') (v2 :=.slice p10 n10 c10) (v3 :=.int .i64 wk') cA;have hB6w:Below w.heap.size w W6:=hb3.trans ⟨hB6.os,hB6.tape,hB6.output,hB6.size,fun j hj=>hB6.block j (Nat.lt_of_lt_of_le hj hb3.size)⟩;have hBw:=(hB6w.grown gA hB6w.size fun k hk=>by cases hk;omega).grown gB (by have:=hB6w.size;have:=gA.size;omega) fun k hk=>by cases hk;omega
   exact finish _ lv' left' wk' rvs' hBw (yA.apart184 cA gB) (mA.kept gB (zc2 cA (by decide) mA)) hl6 cB
  refine wpOp_step rfl fun K' hK => ?_
  go_simp;refine hK _ _ ?_;clear hK K';have hleft:=hl;clear finish;clear hS hfr hs hM hY hnk hJ hmc hone h176 h148 hrows cell hgc g0 g1 g2 g3 gf d1 d2 k4 k5 hpp o1 o2 o3 o4 o5 o6 o7 hn hl hmv hy;rcases hto with⟨hm2,hlen⟩|⟨k,q,hm2,hkq,hik⟩
  ·obtain⟨m1,m2⟩:=m;simp only at hm2 e1;subst hm2 e1;go_wp2_with (go_at_call 102;refine h102.mono ?_;clear h102;rintro e W6 ⟨rvs',rfl,hY6,hO6⟩;obtain⟨a1,a2,a3,a4,a5⟩:=after W6 hO6;clear after;have b0:W6.cell? ⟨w.heap.size,1,none⟩=some (.slice la n.2.1.length lc):=z06 ((a5.block _ (by omega)).trans c1) rfl;have b1:W6.cell? ⟨w.heap.size+1,1,none⟩=some (.int .i64 (-1)):=z06 a1 rfl;have f0:W6.cell? ⟨w.heap.size+2,0,none⟩=some (.slice none 0 0):=z06 a2 rfl;have f1:W6.cell? ⟨w.heap.size+2,1,none⟩=some (.slice none 0 0):=z06 a2 rfl;have f2:W6.cell? ⟨w.heap.size+2,2,none⟩=some (.slice none 0 0):=z06 a2 rfl;have f3:W6.cell? ⟨w.heap.size+2,3,none⟩=some (.int .i64 0):=z06 a2 rfl;have cf:∀off,W6.frozen? ⟨w.heap.size+2,off,none⟩=false:=fun _=>z2m a2;have d0:W6.cell? ⟨g,0,none⟩=some (.slice p2 n2 c2'):=z06 a3 rfl;have d1:W6.cell? ⟨g,1,none⟩=some (.slice la n.2.1.length lc):=z06 a3 rfl;have d2:W6.cell? ⟨g,2,none⟩=some (.slice p10 n10 c10):=z06 a3 rfl;have d3:W6.cell? ⟨g,3,none⟩=some (.int .i64 n.2.2.2):=z06 a3 rfl;have df:∀off,W6.frozen? ⟨g,off,none⟩=false:=fun _=>z2m a3)
   ·obtain⟨M',f1,f2,f3,f4⟩:=last W6 rvs' 1 (.slice la (n.2.1.length-1) 0) (.slice la (n.2.1.length-1) 0) n.2.2.2 n.2.1.tail a5 hY6 a4 ((zzt hleft hlen).1 (by assumption)) a2 ⟨_,a3⟩;exact bodyPost_ret (f4 _ rfl) rfl ⟨M',_,rfl,f1,f2,f3⟩
   ·obtain⟨M',f1,f2,f3,f4⟩:=last W6 rvs' 1 (.slice (Option.map (fun x=>⟨x.block,x.off+1,none⟩) la) (n.2.1.length-1) (lc-1)) (.slice (Option.map (fun x=>⟨x.block,x.off+1,none⟩) la) (n.2.1.length-1) (lc-1)) n.2.2.2 n.2.1.tail a5 hY6 a4 (zzt hleft hlen).2 a2 ⟨_,a3⟩;exact bodyPost_ret (f4 _ rfl) rfl ⟨M',_,rfl,f1,f2,f3⟩
  ·obtain⟨m1,m2⟩:=m;simp only at hm2 e1;subst hm2 e1;go_wp2_with (go_at_call 102;refine h102.mono ?_;clear h102;rintro e W6 ⟨rvs',rfl,hY6,hO6⟩;obtain⟨a1,a2,a3,a4,a5⟩:=after W6 hO6;clear after;have b0:W6.cell? ⟨w.heap.size,1,none⟩=some (.slice la n.2.1.length lc):=z06 ((a5.block _ (by omega)).trans c1) rfl;have b1:W6.cell? ⟨w.heap.size+1,1,none⟩=some (.int .i64 (k:Int)):=z06 a1 rfl;have f0:W6.cell? ⟨w.heap.size+2,0,none⟩=some (.slice none 0 0):=z06 a2 rfl;have f1:W6.cell? ⟨w.heap.size+2,1,none⟩=some (.slice none 0 0):=z06 a2 rfl;have f2:W6.cell? ⟨w.heap.size+2,2,none⟩=some (.slice none 0 0):=z06 a2 rfl;have f3:W6.cell? ⟨w.heap.size+2,3,none⟩=some (.int .i64 0):=z06 a2 rfl;have cf:∀off,W6.frozen? ⟨w.heap.size+2,off,none⟩=false:=fun _=>z2m a2;have d0:W6.cell? ⟨g,0,none⟩=some (.slice p2 n2 c2'):=z06 a3 rfl;have d1:W6.cell? ⟨g,1,none⟩=some (.slice la n.2.1.length lc):=z06 a3 rfl;have d2:W6.cell? ⟨g,2,none⟩=some (.slice p10 n10 c10):=z06 a3 rfl;have d3:W6.cell? ⟨g,3,none⟩=some (.int .i64 n.2.2.2):=z06 a3 rfl;have df:∀off,W6.frozen? ⟨g,off,none⟩=false:=fun _=>z2m a3)
   obtain⟨M',f1,f2,f3,f4⟩:=last W6 rvs' 3 (.int .i64 (wrap64 (n.2.2.2+1))) (.slice la n.2.1.length lc) (wrap64 (n.2.2.2+1)) n.2.1 a5 hY6 a4 hleft a2 ⟨_,a3⟩;rw[show wrap64 (n.2.2.2+1)=wi64 (n.2.2.2+1) from(IntWalk.i64_left _).symm] at f1 f2 f3 f4⊢;exact bodyPost_ret (f4 _ rfl) rfl ⟨M',_,rfl,f1,f2,f3⟩
theorem z2c:Has Tryz.prog z7t:=by
 refine⟨enters_of (by kernel_rfl),fun x r hr M w vs hg hvs => ?_⟩;obtain⟨v,rest,rfl,hv,u,rfl,hu⟩:=hvs;have hu':=zrr hu;subst hu';obtain⟨n,m⟩:=x;have hr':z0w n m=some r:=hr;unfold z0w at hr';cases hok:zv0 n m with
 |false=>rw[hok] at hr';cases hr'
 |true=>
  rw[hok,cond_true] at hr';obtain⟨ns,hn,hr2⟩:=qi.1 hr';simp only[qb] at hr2;subst hr2;obtain⟨yv,lv,mv,rfl,h1,h2,h3⟩:=zkm hv;refine(y5h hg h1 h2 h3 hok hn).mono fun e w' => ?_
  rintro⟨M',u,rfl,q1,q2,q3⟩;exact⟨M',u,rfl,q1,q2,q3⟩
end Go.Lift
namespace Go.Lift
open Go Go.Proofs Go.RowKit Go.Shelf
attribute [local go_sem] Oper.semAt_some
theorem zy2{w:World}{b off len cap i rb roff m rc:Nat}{s:ByteArray}(hi:i < len)(hl:len≤1000)(hm9:m < 1000)(hc1:w.cell? ⟨b,off+i,none⟩=some (.slice (some ⟨rb,roff,none⟩) (m+1) rc))(hc2:w.cell? ⟨rb,roff+m,none⟩=some (.string s)) :
  Calls Tryz.prog 130 #[.slice (some ⟨b,off,none⟩) len cap,.int .i64 (i:Int)] w fun e w'=>e = .returned (.string s)∧w'=w.drew:=by
 have e1:((m:Int)+1-1)=(m:Int):=by omega
 go_enter Tryz.func130,Tryz.ntmps130
 go_wp2
 go_region
 all_goals
  go_wp2
  go_ret
  exact⟨rfl,rfl⟩
theorem yci{M:Mem}{q:List ByteArray}{r:Value}(h:relV Tryz.prog TWt M q r)(hq:0 < q.length):∃b off c,r = .slice (some ⟨b,off,none⟩) q.length c∧∀j s,q[j]?=some s→M b (off+j)=some (.string s):=by
 obtain⟨v',h1,h2⟩:relC Tryz.prog TWt M q [r]:=h;simp only[List.cons.injEq,and_true] at h1;subst h1;rcases h2 with⟨_,rfl⟩|⟨b,off,cap,cells,rfl,hcap,hlen,hm,hel⟩|⟨a,c,_,rfl⟩
 ·cases hq
 ·refine⟨b,off,cap,rfl,fun j s hj => ?_⟩;obtain⟨hlt,hs⟩:=qp.1 hj;have h3:relC Tryz.prog .str M q[j] ((cells.drop (j*1)).take 1):=hel j hlt;have h4:(cells.drop (j*1)).take 1=[Value.string q[j]]:=h3;rw[hs,Nat.mul_one,List.take_one,List.head?_drop] at h4;have hlt2:j < cells.length:=by rw[hlen];simpa [Ty.size] using hlt
  rw[qr hlt2] at h4;simp only[Option.toList_some,List.cons.injEq,and_true] at h4;rw[←h4];exact hm j _ (qr hlt2)
 ·cases hq
theorem z3s{e:Ty}{M:Mem}{x:List e.den}{v:Value}(h:relV Tryz.prog (.slice e) M x v):∃a c,v = .slice a x.length c:=by
 obtain⟨v',h1,h2⟩:relC Tryz.prog (.slice e) M x [v]:=h;simp only[List.cons.injEq,and_true] at h1;subst h1;rcases h2 with⟨rfl,rfl⟩|⟨b,off,cap,cells,rfl,_⟩|⟨a,c,rfl,rfl⟩
 ·exact⟨_,_,rfl⟩
 ·exact⟨_,_,rfl⟩
 ·exact⟨_,_,rfl⟩
structure TSt (w:World) (M:Mem) (n:z2w) (yv lv mv:Value) (M':Mem) (W:World):Prop where
 good:Good M' W
 le:Mem.le M M'
 mem:∀b,b < w.heap.size→M' b=M b
 below:Below w.heap.size w W
 b1:W.heap[w.heap.size]?=some (.cells #[yv,lv,mv,.int .i64 n.2.2.2] 184 (0,0))
 b2:W.heap[w.heap.size+1]?=some (.cells #[.slice none 0 0,.slice none 0 0,.slice none 0 0,.int .i64 0] 184 (0,0))
 m1:∀o,M' w.heap.size o=none
 m2:∀o,M' (w.heap.size+1) o=none
 hy:relV Tryz.prog TYd M' n.1 yv
 hl:relV Tryz.prog TWt M' n.2.1 lv
 hm:relV Tryz.prog TMv M' n.2.2.1 mv
theorem TSt.same{w:World}{M:Mem}{n:z2w}{yv lv mv:Value}{M':Mem}{W W':World}(h:TSt w M n yv lv mv M' W)(h1:W'.heap=W.heap)(h2:W'.os=W.os)(h3:W'.tape=W.tape)(h4:W'.output=W.output):TSt w M n yv lv mv M' W':=by
 have hB:Below W.heap.size W W':=⟨h2,h3,h4,by rw[h1];exact ql _,fun j _=>by rw[h1]⟩
 have hbw:=h.below.size;exact⟨z0k h.good hB,h.le,h.mem,h.below.trans ⟨h2,h3,h4,by rw[h1];exact ql _,fun j _=>by rw[h1]⟩,by rw[h1];exact h.b1,by rw[h1];exact h.b2,h.m1,h.m2,h.hy,h.hl,h.hm⟩
def mu173(B:Nat)(W:World):Nat:=match W.cell? ⟨B,1,none⟩ with
 |some (.slice _ n _)=>n
 |_=>0
theorem list40{α:Type}:∀l:List α,l.length=40→∃x0 x1 x2 x3 x4 x5 x6 x7 x8 x9 x10 x11 x12 x13 x14 x15 x16 x17 x18 x19 x20 x21 x22 x23 x24 x25 x26 x27 x28 x29 x30 x31 x32 x33 x34 x35 x36 x37 x38 x39,l=x0::x1::x2::x3::x4::x5::x6::x7::x8::x9::x10::x11::x12::x13::x14::x15::x16::x17::x18::x19::x20::x21::x22::x23::x24::x25::x26::x27::x28::x29::x30::x31::x32::x33::x34::x35::x36::x37::x38::x39::[]
 |x0::x1::x2::x3::x4::x5::x6::x7::x8::x9::x10::x11::x12::x13::x14::x15::x16::x17::x18::x19::x20::x21::x22::x23::x24::x25::x26::x27::x28::x29::x30::x31::x32::x33::x34::x35::x36::x37::x38::x39::[],_=>⟨_,_,_,_,_,_,_,_,_,_,_,_,_,_,_,_,_,_,_,_,_,_,_,_,_,_,_,_,_,_,_,_,_,_,_,_,_,_,_,_,rfl⟩
def J173(w:World)(M:Mem)(r:z2w)(a:Act)(W:World):Prop:=∃M' n yv lv mv,a.tmps.size=40∧a.defers=[]∧a.tmps.getD 1 undef = .pointer (some ⟨w.heap.size,0,none⟩)∧a.tmps.getD 2 undef = .pointer (some ⟨w.heap.size+1,0,none⟩)∧TSt w M n yv lv mv M' W∧zdi n.2.1.length n=some r∧zce n.1=true∧n.2.1.length≤1000
theorem TSt.put{w:World}{M:Mem}{n0 n:z2w}{yv0 lv0 mv0 yv lv mv:Value}{M' M3:Mem}{W W3:World}(h:TSt w M n0 yv0 lv0 mv0 M' W)(hg:Good M3 W3)(hgr:Grow M' W M3 W3)(hle:Mem.le M' M3)(h1:relV Tryz.prog TYd M3 n.1 yv)(h2:relV Tryz.prog TWt M3 n.2.1 lv)(h3:relV Tryz.prog TMv M3 n.2.2.1 mv) :
  TSt w M n yv lv mv M3 ((((W3.setCell ⟨w.heap.size,0,none⟩ yv).setCell ⟨w.heap.size,1,none⟩ lv).setCell ⟨w.heap.size,2,none⟩ mv).setCell ⟨w.heap.size,3,none⟩ (.int .i64 n.2.2.2)):=by
 have l1:=(qd.1 h.b1).1;have l2:=(qd.1 h.b2).1;have n1:∀o,M3 w.heap.size o=none:=fun o=>by rw[hgr.mem _ l1];exact h.m1 o
 have n2:∀o,M3 (w.heap.size+1) o=none:=fun o=>by rw[hgr.mem _ l2];exact h.m2 o
 have c1:=(hgr.below.block _ l1).trans h.b1;have c2:=(hgr.below.block _ l2).trans h.b2;obtain⟨s1,s2⟩:=set4 (v0:=yv) (v1:=lv) (v2:=mv) (v3 :=.int .i64 n.2.2.2) c1;obtain⟨a1,_,b1⟩:=z2e (off:=0) (v:=yv) hg n1 c1;obtain⟨a2,_,b2⟩:=z2e (off:=1) (v:=lv) a1 n1 b1;obtain⟨a3,_,b3⟩:=z2e (off:=2) (v:=mv) a2 n1 b2;obtain⟨a4,_,b4⟩:=z2e (off:=3) (v :=.int .i64 n.2.2.2) a3 n1 b3;have hB:Below w.heap.size w W3:=h.below.trans ⟨hgr.below.os,hgr.below.tape,hgr.below.output,hgr.below.size,fun j hj=>hgr.below.block j (Nat.lt_of_lt_of_le hj h.below.size)⟩;refine⟨a4,Mem.le_trans h.le hle,fun b hb => ?_,hB.grown s2 hB.size fun k hk=>by cases hk;exact ql _,s1,(s2.block _ (by have:=hgr.below.size;omega) (by simp)).trans c2,n1,n2,h1,h2,h3⟩;rw[hgr.mem b (by have:=h.below.size;omega)];exact h.mem b hb
theorem TSt.fin{w:World}{M:Mem}{n:z2w}{yv lv mv:Value}{M':Mem}{W:World}(h:TSt w M n yv lv mv M' W) :
  Good M' ((((W.setCell ⟨w.heap.size+1,0,none⟩ yv).setCell ⟨w.heap.size+1,1,none⟩ lv).setCell ⟨w.heap.size+1,2,none⟩ mv).setCell ⟨w.heap.size+1,3,none⟩ (.int .i64 n.2.2.2))∧Grow M w M' ((((W.setCell ⟨w.heap.size+1,0,none⟩ yv).setCell ⟨w.heap.size+1,1,none⟩ lv).setCell ⟨w.heap.size+1,2,none⟩ mv).setCell ⟨w.heap.size+1,3,none⟩ (.int .i64 n.2.2.2))∧
   ((((W.setCell ⟨w.heap.size+1,0,none⟩ yv).setCell ⟨w.heap.size+1,1,none⟩ lv).setCell ⟨w.heap.size+1,2,none⟩ mv).setCell ⟨w.heap.size+1,3,none⟩ (.int .i64 n.2.2.2)).heap[w.heap.size+1]?=some (.cells #[yv,lv,mv,.int .i64 n.2.2.2] 184 (0,0)):=by
 obtain⟨s1,s2⟩:=set4 (v0:=yv) (v1:=lv) (v2:=mv) (v3 :=.int .i64 n.2.2.2) h.b2;obtain⟨a1,_,b1⟩:=z2e (off:=0) (v:=yv) h.good h.m2 h.b2;obtain⟨a2,_,b2⟩:=z2e (off:=1) (v:=lv) a1 h.m2 b1;obtain⟨a3,_,b3⟩:=z2e (off:=2) (v:=mv) a2 h.m2 b2;obtain⟨a4,_,b4⟩:=z2e (off:=3) (v :=.int .i64 n.2.2.2) a3 h.m2 b3;exact⟨a4,⟨h.below.grown s2 h.below.size fun k hk=>by cases hk;omega,h.mem⟩,s1⟩
theorem y4y{M:Mem}{tmps:Array Value}{W:World}{h:Nat}{cs:Array Value}{n:z2w}(h2:tmps.getD 2 undef = .pointer (some ⟨h,0,none⟩))(hb:W.heap[h]?=some (.cells cs 184 (0,0)))(hr:relC Tryz.prog z0b M n cs.toList) :
  (Go.results Tryz.f173 tmps).run Tryz.prog W = .ok (.agg cs) W:=by
 obtain⟨i,d,hi⟩:=z0l y27;have hl:(loadVar 184 ⟨h,0,none⟩).run Tryz.prog W = .ok (z6o z0b cs.toList) W:=z9m hi hr (fun j u hj=>by
  rw[Nat.zero_add];exact z06 hb (by simpa using hj))
 have hrs:Tryz.f173.results = #[.cell 2 184]:=by kernel_rfl
 have ho:z6o z0b cs.toList = .agg cs:=rfl;rw[ho] at hl;simp only[Go.results,hrs,Sem.run_bind,List.mapM_toArray,List.mapM_cons,List.mapM_nil,h2,asAddr,Sem.run_pure,Result.andThen_ok,hl,Sem.run_map];rfl
theorem y4r{y:List (List ByteArray)}{x:ByteArray}{i:Nat}{p:List ByteArray}(hp:y[i]?=some p)(hP:(bif decide (0 < p.length) then seqb (p.getD (p.length-1) ByteArray.empty) x else false)=true)(hlt:∀j p,j < i→y[j]?=some p→(bif decide (0 < p.length) then seqb (p.getD (p.length-1) ByteArray.empty) x else false)=false):zm3 y x=some i:=by
 unfold zm3;rw[List.findIdx?_eq_some_iff_getElem];obtain⟨h,e⟩:=qp.1 hp;refine⟨h,by rw[e];exact hP,fun j hj => ?_⟩;rw[hlt j _ hj (qr (by omega))];simp
theorem y6x{n:z2w}(h:∀x,n.2.1.head?=some x→∀(j:Nat) (p:List ByteArray),n.1[j]?=some p→(bif decide (0 < p.length) then seqb (p.getD (p.length-1) ByteArray.empty) x else false)=false):zdi n.2.1.length n=some n:=by
 obtain⟨y,l,ms,wk⟩:=n;cases l with
 |nil=>rfl
 | cons x l=>
  have:zm3 y x=none:=by
   unfold zm3;rw[List.findIdx?_eq_none_iff];intro p hp;obtain⟨j,hj,rfl⟩:=List.mem_iff_getElem.1 hp;exact h x rfl j _ (qr hj)
  show zdi (l.length+1) (y,x::l,ms,wk)=_;simp only[zdi,this]
theorem ye2{y ns:List (List ByteArray)}{i:Nat}(hW:zce y=true)(hn:zco y ((i:Int),-1)=some ns):zce ns=true:=by
 obtain⟨h1,h2⟩:=zcd hW;have hp:∀p∈lset y (i:Int) ((lget [] y (i:Int)).take ((lget [] y (i:Int)).length-1)),p.length≤999:=fun p hp=>by
  unfold lset at hp;rcases List.mem_or_eq_of_mem_set hp with hp|rfl
  ·exact h2 p hp
  ·rw[List.length_take];have:(lget [] y (i:Int)).length≤999:=by
    unfold lget;rw[List.getD_eq_getElem?_getD];cases e:y[(i:Int).toNat]? with
    |none=>exact Nat.zero_le _
    |some q=>exact h2 q (List.mem_of_getElem? e)
   omega
 have hn':some (lset y (i:Int) ((lget [] y (i:Int)).take ((lget [] y (i:Int)).length-1)))=some ns:=hn;injection hn' with hn'
 subst hn';unfold zce;refine z0q (z01 (by unfold lset;rw[List.length_set];exact h1)) (List.all_eq_true.2 fun p h=>z01 (hp p h))
theorem y0p{P:Program}{a:Act}{w:World}{Q:Exit→Act→World→Prop}{rest:Code}(l:Nat)(J:Act→World→Prop)(μ:Act→World→Nat)(h0:J a w)
  (pass:∀a w,J a w→rest.wp P (Exit.jump l (fun a' w'=>J a' w'∧μ a' w' < μ a w) Q) a w):(Code.scope (.seq (.label l) rest)).wp P Q a w:=by
 refine wp_scope_jumps l J μ (rest :=.seq .skip rest) (by simp[findLabel]) (wp_seq (wp_label ?_)) fun a w h=>wp_seq (wp_skip (pass a w h))
 refine wp_mono (pass a w h0) fun e a' w' h => ?_
 cases e with
 |goto l'=>exact⟨h.1,h.2.1⟩
 |normal=>exact h
 |exit i=>exact h
 |ret=>exact h
 |panic c=>exact h
 |outgrown=>exact h
theorem ydz{M:Mem}{w:World}(hg:Good M w){n r:z2w}{yv lv mv:Value}(hy:relV Tryz.prog TYd M n.1 yv)(hl:relV Tryz.prog TWt M n.2.1 lv)(hmv:relV Tryz.prog TMv M n.2.2.1 mv)(hr:zdi n.2.1.length n=some r)(hy9:zce n.1=true)(hl9:n.2.1.length≤1000) :
  Calls Tryz.prog 173 #[.agg #[yv,lv,mv,.int .i64 n.2.2.2]] w fun e w'=>∃M' u,e = .returned u∧relV Tryz.prog z0b M' r u∧Good M' w'∧Grow M w M' w':=by
 obtain⟨w1,hw1⟩:∃w1,w.alloc (.cells #[yv,lv,mv,.int .i64 n.2.2.2] 184)=w1:=⟨_,rfl⟩
 obtain⟨w2,hw2⟩:∃w2,w1.alloc (.cells #[.slice none 0 0,.slice none 0 0,.slice none 0 0,.int .i64 0] 184)=w2:=⟨_,rfl⟩
 have z1:w1.heap.size=w.heap.size+1:=by rw[←hw1,World.size_alloc]
 have h0:TSt w M n yv lv mv M w2:=by
  have hb:Below w.heap.size w w2:=by
   rw[←hw2,←hw1];exact((Below.refl _ w).alloc (ql _) _).alloc (by rw[World.size_alloc];omega) _
  refine⟨z0k hg hb,Mem.le_refl _,fun _ _=>rfl,hb,?_,?_,fun o=>z5p hg (ql _) o,fun o=>z5p hg (by omega) o,hy,hl,hmv⟩
  ·rw[←hw2,z3x w1 _ _ (by omega),←hw1];exact World.alloc_heap_new w _
  ·rw[←hw2,←z1];exact World.alloc_heap_new w1 _
 go_enter Tryz.func173,Tryz.ntmps173
 go_wp2
 refine y0p 0 (J173 w M r) (fun _ W=>mu173 w.heap.size W) ⟨M,n,yv,lv,mv,rfl,rfl,rfl,rfl,h0,hr,hy9,hl9⟩ ?_;clear h0 hr hy9 hl9 hy hl hmv;rintro⟨⟨l⟩,df⟩ W ⟨M',n',yv',lv',mv',hs,hd,s1,s2,hT,hr,hy9,hl9⟩;simp only at hd;subst hd;obtain⟨x0,x1,x2,x3,x4,x5,x6,x7,x8,x9,x10,x11,x12,x13,x14,x15,x16,x17,x18,x19,x20,x21,x22,x23,x24,x25,x26,x27,x28,x29,x30,x31,x32,x33,x34,x35,x36,x37,x38,x39,rfl⟩:=list40 l hs;obtain rfl:x1 = .pointer (some ⟨w.heap.size,0,none⟩):=s1;obtain rfl:x2 = .pointer (some ⟨w.heap.size+1,0,none⟩):=s2;clear hs;obtain⟨y',left',ms',wk'⟩:=n';simp only at hr hy9 hl9;have hW9:=hy9;obtain⟨hy9,hp9⟩:=zcd hy9;have hya:=hT.hy;obtain⟨v',hv1,hv2⟩:relC Tryz.prog TYd M' y' [yv']:=hya;simp only[List.cons.injEq,and_true] at hv1;subst hv1;obtain⟨ya,yc,rfl⟩:∃ya yc,yv' = .slice ya y'.length yc:=by
  rcases hv2 with⟨rfl,h0⟩|⟨b,off,cap,cells,rfl,_⟩|⟨a,c,rfl,h0⟩
  ·rw[h0];exact⟨_,_,rfl⟩
  ·exact⟨_,_,rfl⟩
  ·rw[h0];exact⟨_,_,rfl⟩
 clear hv2;obtain⟨la,lc,rfl⟩:=zm5 hT.hl;obtain⟨ma,mc,rfl⟩:=z3s hT.hm;have hcells:∀W':World,W'.heap=W.heap→W'.cell? ⟨w.heap.size,0,none⟩=some (.slice ya y'.length yc)∧W'.cell? ⟨w.heap.size,1,none⟩=some (.slice la left'.length lc)∧W'.cell? ⟨w.heap.size,2,none⟩=some (.slice ma ms'.length mc)∧W'.cell? ⟨w.heap.size,3,none⟩=some (.int .i64 wk'):=fun W' hW=>by
  have:=hT.b1;rw[←hW] at this;exact⟨z06 this rfl,z06 this rfl,z06 this rfl,z06 this rfl⟩
 obtain⟨k0,k1,k2,k3⟩:=hcells W rfl;go_wp2
 go_loopw [3,7] (fun v3 v7 wr=>∃i:Nat,v7=Value.int .i64 (i:Int)∧i≤y'.length∧wr.heap=W.heap∧wr.os=W.os∧wr.tape=W.tape∧wr.output=W.output∧∀x,left'.head?=some x→∀j p,j < i→y'[j]?=some p→(bif decide (0 < p.length) then seqb (p.getD (p.length-1) ByteArray.empty) x else false)=false) (fun v3 v7 wr=>ye1 y'.length v7)
 case atStart=>exact⟨0,rfl,Nat.zero_le _,rfl,rfl,rfl,rfl,fun x hx j p hj=>by omega⟩
 case round=>
  obtain⟨i,rfl,hi,q1,q2,q3,q4,q5⟩:=hrel;obtain⟨e0,e1,e2,e3⟩:=hcells wr q1;have hTr:TSt w M (y',left',ms',wk') (.slice ya y'.length yc) (.slice la left'.length lc) (.slice ma ms'.length mc) M' wr:=hT.same q1 q2 q3 q4;by_cases hlt:i < y'.length
  ·have hp:y'[i]?=some y'[i]:=qr hlt;obtain⟨p,hpp⟩:∃p,y'[i]=p:=⟨_,rfl⟩
   rw[hpp] at hp;clear hpp;have cont:(∀x,left'.head?=some x→(bif decide (0 < p.length) then seqb (p.getD (p.length-1) ByteArray.empty) x else false)=false)→∀x,left'.head?=some x→∀j p,j < i+1→y'[j]?=some p→(bif decide (0 < p.length) then seqb (p.getD (p.length-1) ByteArray.empty) x else false)=false:=fun h x hx j p' hj hp'=>by
    by_cases e:j=i
    ·subst e;rw[hp,qb] at hp';subst hp';exact h x hx
    ·exact q5 x hx j p' (by omega) hp'
   rcases left' with _|⟨x,l'⟩
   ·simp only[List.length_nil] at e1 k1;go_wp2
    go_region
    all_goals
     go_wp2
     refine⟨⟨i+1,rfl,by omega,q1,q2,q3,q4,cont fun x hx=>by cases hx⟩,?_⟩;show y'.length-(((i:Int)+1)).toNat < y'.length-((i:Int)).toNat
     omega
   ·obtain⟨lb,loff,lc',e,hlc⟩:=yci hTr.hl (by simp);simp only[Value.slice.injEq,true_and] at e;obtain⟨rfl,rfl⟩:=e;have cx:wr.cell? ⟨lb,loff,none⟩=some (.string x):=hTr.good.2 _ _ _ (hlc 0 x rfl);obtain⟨b,off,cap,e,hrows⟩:=ziw hTr.hy (by show 0 < y'.length;omega);simp only[Value.slice.injEq,true_and] at e;obtain⟨rfl,rfl⟩:=e;obtain⟨rv,r1,r2⟩:=hrows i p hp;have cr:wr.cell? ⟨b,off+i,none⟩=some rv:=hTr.good.2 _ _ _ r1;simp only[qk] at e1;by_cases hp0:p.length=0
    ·obtain⟨ra,rc,rfl⟩:=zm5 r2;rw[hp0] at cr;clear r1 r2 hrows hlc;go_wp2
     go_region
     all_goals
      go_wp2
      refine⟨⟨i+1,rfl,by omega,q1,q2,q3,q4,cont fun x hx=>by rw[z0a (show ¬0 < p.length by omega)];rfl⟩,?_⟩;show y'.length-(((i:Int)+1)).toNat < y'.length-((i:Int)).toNat
      omega
    ·obtain⟨m,hm⟩:∃m,p.length=m+1:=⟨p.length-1,by omega⟩
     obtain⟨rb,roff,rc,rfl,hrc⟩:=yci r2 (by omega);have hm9:m < 1000:=by have:=hp9 p (List.mem_of_getElem? hp);omega
     have hs:p[m]?=some (p.getD (p.length-1) ByteArray.empty):=by
      rw[show p.length-1=m by omega,List.getD_eq_getElem?_getD];cases e:p[m]? with
      |none=>rw[List.getElem?_eq_none_iff] at e;omega
      |some x=>rfl
     have cs:wr.cell? ⟨rb,roff+m,none⟩=some (.string (p.getD (p.length-1) ByteArray.empty)):=hTr.good.2 _ _ _ (hrc m _ hs);rw[hm] at cr;have htop:=zy2 (w:=wr.drew) (cap:=yc) hlt hy9 hm9 cr cs;have hP:(bif decide (0 < p.length) then seqb (p.getD (p.length-1) ByteArray.empty) x else false)=seqb (p.getD (p.length-1) ByteArray.empty) x:=by rw[z01 (show 0 < p.length by omega),cond_true]
     clear r1 r2 hrows hlc hrc cs hs;by_cases hsx:p.getD (p.length-1) ByteArray.empty=x
     ·have htp:zm3 y' x=some i:=y4r hp (by rw[hP]; exact zhc.2 hsx) fun j p hj hp=>q5 x rfl j p hj hp
      rw[hsx] at htop;have hb:(x.toList == x.toList)=true:=beq_self_eq_true _;have hr':zdi (l'.length+1) (y',x::l',ms',wk')=some r:=hr;simp only[zdi,htp] at hr';obtain⟨t,ht1,ht2⟩:=qi.1 hr';obtain⟨ns,hn1,hn2⟩:∃ns,zco y' ((i:Int),-1)=some ns∧t=(ns,l',ms'++[((i:Int),-1)],wk'):=by
       unfold z0w at ht1;cases hok:zv0 (y',x::l',ms',wk') ((i:Int),-1) with
       |false=>rw[hok] at ht1;cases ht1
       |true=>
        rw[hok,cond_true] at ht1;obtain⟨ns,hn,h3⟩:=qi.1 ht1;simp only[qb] at h3;exact⟨ns,hn,h3.symm⟩
      have hnode:=z2c.2 ((y',x::l',ms',wk'),((i:Int),-1)) t ht1;have hcall:Calls Tryz.prog 131 #[.agg #[.slice (some ⟨b,off,none⟩) y'.length yc,.slice (some ⟨lb,loff,none⟩) (l'.length+1) lc,.slice ma ms'.length mc,.int .i64 wk'],.agg #[.int .i64 (i:Int),.int .i64 (-1)]] wr.drew.drew fun e W3=>∃ya3 yn3 yc3 la3 lc3 ma3 mn3 mc3 M3,e = .returned (.agg #[.slice ya3 yn3 yc3,.slice la3 l'.length lc3,.slice ma3 mn3 mc3,.int .i64 wk'])∧
        W3.cell? ⟨w.heap.size,0,none⟩=some (.slice (some ⟨b,off,none⟩) y'.length yc)∧W3.cell? ⟨w.heap.size,1,none⟩=some (.slice (some ⟨lb,loff,none⟩) (l'.length+1) lc)∧W3.cell? ⟨w.heap.size,2,none⟩=some (.slice ma ms'.length mc)∧W3.cell? ⟨w.heap.size,3,none⟩=some (.int .i64 wk')∧(∀o,W3.frozen? ⟨w.heap.size,o,none⟩=false)∧
        TSt w M (ns,l',ms'++[((i:Int),-1)],wk') (.slice ya3 yn3 yc3) (.slice la3 l'.length lc3) (.slice ma3 mn3 mc3) M3 ((((W3.setCell ⟨w.heap.size,0,none⟩ (.slice ya3 yn3 yc3)).setCell ⟨w.heap.size,1,none⟩ (.slice la3 l'.length lc3)).setCell ⟨w.heap.size,2,none⟩ (.slice ma3 mn3 mc3)).setCell ⟨w.heap.size,3,none⟩ (.int .i64 wk')):=by
       have hT2:TSt w M (y',x::l',ms',wk') (.slice (some ⟨b,off,none⟩) y'.length yc) (.slice (some ⟨lb,loff,none⟩) (l'.length+1) lc) (.slice ma ms'.length mc) M' wr.drew.drew:=hTr.same rfl rfl rfl rfl;refine(hnode M' wr.drew.drew [_,_] hT2.good ⟨_,[_],rfl,zno hT2.hy hT2.hl hT2.hm,_,rfl,⟨#[.int .i64 (i:Int),.int .i64 (-1)],rfl,rfl,rfl⟩⟩).mono fun e W3 => ?_
       rintro⟨M3,u,rfl,hu,hg3,hgr⟩;subst hn2;obtain⟨yv3,lv3,mv3,rfl,u1,u2,u3⟩:=zkm hu;obtain⟨la3,lc3,rfl⟩:=zm5 u2;obtain⟨ya3,yc3,rfl⟩:=z3s u1;obtain⟨ma3,mc3,rfl⟩:=z3s u3;have c3:=(hgr.below.block _ (qd.1 hT2.b1).1).trans hT2.b1;exact⟨ya3,_,yc3,la3,lc3,ma3,_,mc3,M3,rfl,z06 c3 rfl,z06 c3 rfl,z06 c3 rfl,z06 c3 rfl,fun _=>z2m c3,hT2.put hg3 hgr (z12 (G:=[]) hT2.good hgr).le u1 u2 u3⟩
      subst hn2;clear hnode hP htp hTr hT cont hcells;go_wp2
      go_region_with (go_at_call 130;refine htop.mono ?_;rintro e w' ⟨rfl,rfl⟩)
      all_goals
       go_wp2_with (go_at_call 131;refine hcall.mono ?_;clear hcall;rintro e W3 ⟨ya3,yn3,yc3,la3,lc3,ma3,mn3,mc3,M3,rfl,t0,t1,t2,t3,tf,hT3⟩)
       go_step3
       refine⟨rfl,⟨M3,(ns,l',ms'++[((i:Int),-1)],wk'),_,_,_,rfl,rfl,rfl,rfl,hT3,ht2,ye2 hW9 hn1,by rw[qk] at hl9;show l'.length≤1000;omega⟩,?_⟩;have hm4:=z06 (off:=1) (v :=.slice la3 l'.length lc3) hT3.b1 rfl;unfold mu173;rw[hm4,k1];show l'.length < (x::l').length;rw[qk];omega
     ·have hcont:=cont fun x' hx'=>by cases hx'; exact hP.trans (by cases h:seqb (p.getD (p.length-1) ByteArray.empty) x with|false=>rfl|true=>exact absurd (zhc.1 h) hsx)
      generalize p.getD (p.length-1) ByteArray.empty=s at htop hsx hP;have hb:(s.toList == x.toList)=false:=by
       cases h:(s.toList == x.toList) with
       |false=>rfl
       |true=>exact absurd (zhc.1 h) hsx
      have hP':(bif decide (0 < p.length) then seqb s x else false)=false:=hP.trans hb;go_wp2
      go_region_with (go_at_call 130;refine htop.mono ?_;rintro e w' ⟨rfl,rfl⟩)
      all_goals
       go_wp2
       refine⟨⟨i+1,rfl,by omega,q1,q2,q3,q4,hcont⟩,?_⟩;show y'.length-(((i:Int)+1)).toNat < y'.length-((i:Int)).toNat
       omega
  ·have h2:=hTr.b2;have g0:wr.cell? ⟨w.heap.size+1,0,none⟩=some (.slice none 0 0):=z06 h2 rfl;have g1:wr.cell? ⟨w.heap.size+1,1,none⟩=some (.slice none 0 0):=z06 h2 rfl;have g2:wr.cell? ⟨w.heap.size+1,2,none⟩=some (.slice none 0 0):=z06 h2 rfl;have g3:wr.cell? ⟨w.heap.size+1,3,none⟩=some (.int .i64 0):=z06 h2 rfl;have gf:∀off,wr.frozen? ⟨w.heap.size+1,off,none⟩=false:=fun _=>z2m h2
   have hfin:=hTr.fin;obtain rfl:i=y'.length:=by omega
   have hend:=y6x (n:=(y',left',ms',wk')) fun x hx j p hp=>q5 x hx j p (qp.1 hp).1 hp
   have hrr:zdi left'.length (y',left',ms',wk')=some r:=hr;rw[show zdi left'.length (y',left',ms',wk')=some (y',left',ms',wk') from hend,qb] at hrr;subst hrr;go_wp2
   simp only[Exit.jump];exact bodyPost_ret (y4y rfl hfin.2.2 ⟨hTr.hy,hTr.hl,hTr.hm,rfl⟩) rfl ⟨M',_,rfl,zno hTr.hy hTr.hl hTr.hm,hfin.1,hfin.2.1⟩
theorem zcr:Has Tryz.prog zbg:=by
 refine⟨enters_of (by kernel_rfl),fun n r hr M w vs hg hvs => ?_⟩;obtain⟨v,rfl,hv⟩:=hvs;have hr':z45 n=some r:=hr;unfold z45 at hr';cases hW:zce n.1 with
 |false=>rw[hW] at hr';cases hr'
 | true=>
  by_cases hl:n.2.1.length≤1000
  ·rw[hW,z01 hl] at hr';obtain⟨yv,lv,mv,rfl,h1,h2,h3⟩:=zkm hv;refine(ydz hg h1 h2 h3 hr' hW hl).mono fun e w' => ?_
   rintro⟨M',u,rfl,q1,q2,q3⟩;exact⟨M',u,rfl,q1,q2,q3⟩
  ·rw[hW,z0a hl] at hr';cases hr'
end Go.Lift
