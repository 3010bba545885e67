/-
  A move in a yard (walk), and the contract of the program's.
-/
import Derived.Test.YtggnjngdmadbaaaGreatDoorYaM
import Derived.Test.YtggnjngdmadbaaaGreatDoorManH
import Derived.Deep.RegionWith
import Derived.Deep.RegionLaw
import Derived.Test.YtggnjngdmadbaaaGreatDoorYaA
set_option maxRecDepth 100000
set_option maxHeartbeats 4000000
set_option linter.unusedSectionVars false
set_option linter.unusedVariables false
set_option linter.unusedSimpArgs false
namespace Go.Lift
open Go Go.Proofs Go.RowKit
attribute [local go_sem] Oper.semAt_some
theorem yce{w:World}{base g cap i:Nat}{ys:List (List ByteArray)}{rvs:List Value}{p:List ByteArray}(h:z14 w base (.slice (some ⟨g,0,none⟩) ys.length cap) ys rvs)(hp:ys[i]?=some p)(hpos:0 < p.length)(hl:ys.length≤1000)(hlp:p.length≤1000) :
  Calls Tryz.prog 130 #[.slice (some ⟨g,0,none⟩) ys.length cap,.int .i64 (i:Int)] w fun e w'=>e = .returned (.string (p.getD (p.length-1) ByteArray.empty))∧w'=w.drew:=by
 obtain⟨r,q1,q2⟩:=h.rows i p hp;have hi:i < ys.length:=(qp.1 hp).1;have hc1:w.cell? ⟨g,i,none⟩=some r:=by
  have:=h.outer.cells (g:=g) rfl i r q1;rwa [Addr.add_mk,Nat.zero_add] at this
 obtain⟨b,c,rfl⟩:∃b c,r = .slice (some ⟨b,0,none⟩) p.length c:=by
  rcases q2.2 with⟨_,h0⟩|⟨b,c,_,h1,_⟩
  ·omega
  ·exact⟨b,c,h1⟩
 obtain⟨m,hm⟩:∃m,p.length=m+1:=⟨p.length-1,by omega⟩
 have hs:p[m]?=some (p.getD (p.length-1) ByteArray.empty):=by
  rw[show p.length-1=m by omega,List.getD_eq_getElem?_getD];cases e:p[m]? with
  |none=>rw[List.getElem?_eq_none_iff] at e;omega
  |some x=>rfl
 have hc2:w.cell? ⟨b,m,none⟩=some (.string (p.getD (p.length-1) ByteArray.empty)):=by
  have:=q2.cells (g:=b) rfl m (.string (p.getD (p.length-1) ByteArray.empty)) (by
   unfold strCells;rw[List.getElem?_map,hs];rfl)
  rwa [Addr.add_mk,Nat.zero_add] at this
 generalize p.getD (p.length-1) ByteArray.empty=s at hc2⊢;have e1:((m:Int)+1-1)=(m:Int):=by omega
 rw[hm] at hc1;go_enter Tryz.func130,Tryz.ntmps130
 go_wp2
 go_region
 all_goals
  go_wp2
  go_ret
  exact⟨rfl,rfl⟩
end Go.Lift
namespace Go.Lift
open Go Go.Proofs Go.RowKit
attribute [local go_sem] Oper.semAt_some
theorem z14.shape{w:World}{base:Nat}{v:Value}{ys:List (List ByteArray)}{rvs:List Value}(h:z14 w base v ys rvs)(hp:0 < ys.length):∃g cap,v = .slice (some ⟨g,0,none⟩) ys.length cap∧base≤g∧g < w.heap.size:=by
 rcases h.outer.2 with⟨_,h0⟩|⟨b,c,cur,h1,h2,h3,_⟩
 ·omega
 ·exact⟨b,c,h1,h2,(qd.1 h3).1⟩
theorem z14.row{w:World}{base g cap i:Nat}{ys:List (List ByteArray)}{rvs:List Value}{p:List ByteArray}(h:z14 w base (.slice (some ⟨g,0,none⟩) ys.length cap) ys rvs)(hp:ys[i]?=some p):∃r,rvs[i]?=some r∧w.ownsRow base 9 1 r p.length (strCells p)∧w.cell? ⟨g,i,none⟩=some r∧w.frozen? ⟨g,i,none⟩=false:=by
 obtain⟨r,q1,q2⟩:=h.rows i p hp;refine⟨r,q1,q2,?_,?_⟩
 ·have:=h.outer.cells (g:=g) rfl i r q1;rwa [Addr.add_mk,Nat.zero_add] at this
 ·rcases h.outer.2 with⟨h1,_⟩|⟨b,c,cur,h1,_,h3,_⟩
  ·cases h1
  ·simp only[Value.slice.injEq,qb,Addr.mk.injEq,and_true,true_and] at h1;obtain⟨rfl,rfl⟩:=h1;exact z2m h3
theorem y18{w:World}{base g n m cap e:Nat}{xs:List Value}(h:w.ownsRow base e 1 (.slice (some ⟨g,0,none⟩) n cap) n xs)(hm:m≤n):w.ownsRow base e 1 (.slice (some ⟨g,0,none⟩) m cap) m (xs.take m):=by
 rcases h.2 with⟨h1,_⟩|⟨b,c,cur,h1,h2,h3,h4,h5,h6,h7⟩
 ·cases h1
 ·simp only[Value.slice.injEq,qb,Addr.mk.injEq,and_true,true_and] at h1;obtain⟨rfl,rfl⟩:=h1;refine⟨by rw[List.length_take,h.1];omega,.inr ⟨g,cap,cur,rfl,h2,h3,by omega,h5,h6,?_⟩⟩;rw[←h7,List.take_take];congr 1
  omega
theorem z14.drew{w:World}{base:Nat}{v:Value}{ys:List (List ByteArray)}{rvs:List Value}(h:z14 w base v ys rvs):z14 w.drew base v ys rvs:=h.kept ⟨rfl,rfl,rfl,ql _,fun _ _ _=>rfl⟩
theorem zae{P:Program}{ops:Array Oper}{o:Oper}{a:Act}{w w':World}{K:Act→World→Prop}{Q:Exit→Act→World→Prop}{E:Prop}
  (hg:o.guard=none) (s x:Operand) (t:TypeId) (hop:o.op=Op.call {callee:=Callee.builtin Builtin.append,args := #[s,x],argTypes := #[t,t]})
  (v sl v':Value) (hs:a.eval s=v) (hx:a.eval x=sl) (hrun:(Builtin.append_ #[t,t] o.type #[v,sl]).run P w = .ok v' w') (hK:K (a.put o.dst v') w') :
  if Region.wanted o (yielded ops a.tmps)=true then Oper.wp P o a w K Q else E:=by
 have hw:Region.wanted o (yielded ops a.tmps)=true:=by simp[Region.wanted,hg]
 rw[if_pos hw];unfold Oper.wp;simp[execOp,hop,resolve,invoke,builtin,hs,hx,hrun,Result.andThen];exact hK
theorem zuw(tmps:Array Value)(w:World):(Go.results Tryz.f102 tmps).run Tryz.prog w = .ok (.tuple #[]) w:=by
 have hrs:Tryz.f102.results = #[]:=by kernel_rfl
 simp only[Go.results,hrs,Sem.run_bind,List.mapM_toArray,List.mapM_nil,Sem.run_pure,Result.andThen_ok,Sem.run_map];rfl
theorem y1i{w:World}{base g cap i:Nat}{ys:List (List ByteArray)}{rvs:List Value}{p:List ByteArray}(h:z14 w base (.slice (some ⟨g,0,none⟩) ys.length cap) ys rvs)(hp:ys[i]?=some p)(hpos:0 < p.length)(hl:ys.length≤1000)(hlp:p.length≤1000) :
  Calls Tryz.prog 102 #[.slice (some ⟨g,0,none⟩) ys.length cap,.agg #[.int .i64 (i:Int),.int .i64 (-1)]] w fun e w'=>∃rvs',e = .returned (.tuple #[])∧z14 w' base (.slice (some ⟨g,0,none⟩) (ys.set i (p.take (p.length-1))).length cap) (ys.set i (p.take (p.length-1))) rvs'∧Outside (.slice (some ⟨g,0,none⟩) ys.length cap) rvs w w':=by
 obtain⟨w1,hw1⟩:∃w1,w.alloc (.cells #[.int .i64 (i:Int),.int .i64 (-1)] 63)=w1:=⟨_,rfl⟩
 have h1:z14 w1 base (.slice (some ⟨g,0,none⟩) ys.length cap) ys rvs:=by rw[←hw1];exact h.kept (World.grownBy_alloc w _ none)
 obtain⟨r,q1,q2,hc1,hc1'⟩:=h1.row hp;have hi:i < ys.length:=(qp.1 hp).1;obtain⟨b,c,rfl⟩:∃b c,r = .slice (some ⟨b,0,none⟩) p.length c:=by
  rcases q2.2 with⟨_,h0⟩|⟨b,c,_,h1,_⟩
  ·omega
  ·exact⟨b,c,h1⟩
 obtain⟨m,hm⟩:∃m,p.length=m+1:=⟨p.length-1,by omega⟩
 have hmc:m+1≤c:=by
  rcases q2.2 with⟨h0,_⟩|⟨_,_,_,h1,_,_,h2,_⟩
  ·cases h0
  ·cases h1;omega
 have htop:=yce h1 hp hpos hl hlp;have hw:=(World.alloc_heap_new w (.cells #[.int .i64 (i:Int),.int .i64 (-1)] 63))
 rw[hw1] at hw;have k0:w1.cell? ⟨w.heap.size,0,none⟩=some (.int .i64 (i:Int)):=z06 hw rfl;have k1:w1.cell? ⟨w.heap.size,1,none⟩=some (.int .i64 (-1)):=z06 hw rfl;have hgw:g≠w.heap.size:=by
  have:=h.shape (by omega);obtain⟨g',cap',e,_,hlt⟩:=this;simp only[Value.slice.injEq,qb,Addr.mk.injEq,and_true,true_and] at e;omega
 have e1:((m:Int)+1-1)=(m:Int):=by omega
 have hturn:=h1.turn (r1 :=.slice (some ⟨b,0,none⟩) m c) (y1:=p.take (p.length-1)) q1 ⟨rfl,rfl,rfl,ql _,fun _ _ _=>rfl⟩ (by
  have:=y18 q2 (m:=m) (by omega);rw[List.length_take,show min (p.length-1) p.length=m by omega,show p.length-1=m by omega];have e2:(strCells p).take m=strCells (p.take m):=by unfold strCells;rw[List.map_take]
  rw[e2] at this;exact this) (.inl rfl)
 generalize p.getD (p.length-1) ByteArray.empty=s at htop;rw[hm] at hc1;go_enter Tryz.func102,Tryz.ntmps102
 go_wp2_with (go_at_call 130;refine htop.mono ?_;clear htop;rintro e w2 ⟨rfl,rfl⟩)
 have k0':(w1.setCell ⟨g,i,none⟩ (.slice (some ⟨b,0,none⟩) m c)).cell? ⟨w.heap.size,0,none⟩=some (.int .i64 (i:Int)):=(World.cell?_of_block (by simp[World.setCell,Array.getElem?_modify,hgw])).trans k0;have k1':(w1.setCell ⟨g,i,none⟩ (.slice (some ⟨b,0,none⟩) m c)).cell? ⟨w.heap.size,1,none⟩=some (.int .i64 (-1)):=(World.cell?_of_block (by simp[World.setCell,Array.getElem?_modify,hgw])).trans k1;have hout:=za2 (w:=w1) (w1:=w1) (g:=g) (cap:=cap) (n:=ys.length) (r1 :=.slice (some ⟨b,0,none⟩) m c) q1 ⟨rfl,rfl,rfl,ql _,fun _ _ _=>rfl⟩;have hfin:z14 (w1.setCell ⟨g,i,none⟩ (.slice (some ⟨b,0,none⟩) m c)).drew.drew base (.slice (some ⟨g,0,none⟩) (ys.set i (p.take (p.length-1))).length cap) (ys.set i (p.take (p.length-1))) (rvs.set i (.slice (some ⟨b,0,none⟩) m c))∧Outside (.slice (some ⟨g,0,none⟩) ys.length cap) rvs w (w1.setCell ⟨g,i,none⟩ (.slice (some ⟨b,0,none⟩) m c)).drew.drew:=by
  refine⟨hturn.drew.drew,⟨?_,?_,?_,?_,fun k hk hv hr => ?_⟩⟩
  ·rw[←hw1];rfl
  ·rw[←hw1];rfl
  ·rw[←hw1];rfl
  ·have:=hout.size;rw[←hw1] at this⊢;simp only[World.size_alloc] at this;simp only[World.drew];omega
  ·refine(hout.block k (by rw[←hw1,World.size_alloc]; omega) hv hr).trans ?_;rw[←hw1];exact Below.heap_alloc w _ k hk
 go_region
 all_goals
  go_wp2
  exact bodyPost_end (zuw _ _) rfl ⟨_,rfl,hfin.1,hfin.2⟩
theorem Outside.trans{v v':Value}{rvs rvs':List Value}{w w1 w2:World}(h:Outside v rvs w w1)(k:Outside v' rvs' w1 w2)(hv:v'.ownBlock=v.ownBlock)(hr:∀r∈rvs',r.ownBlock=none∨∃s∈rvs,s.ownBlock=r.ownBlock):Outside v rvs w w2:=
 ⟨k.os.trans h.os,k.tape.trans h.tape,k.output.trans h.output,Nat.le_trans h.size k.size,fun j hj h1 h2=>(k.block j (Nat.lt_of_lt_of_le hj h.size) (by rw[hv]; exact h1) fun r hm=>by
  rcases hr r hm with e|⟨s,hs,e⟩
  ·rw[e];simp
  ·rw[←e];exact h2 s hs).trans (h.block j hj h1 h2)⟩
theorem y5n{w:World}{base g cap i k:Nat}{ys:List (List ByteArray)}{rvs:List Value}{p q:List ByteArray}(h:z14 w base (.slice (some ⟨g,0,none⟩) ys.length cap) ys rvs)(hb:base≤w.heap.size)(hp:ys[i]?=some p)(hpos:0 < p.length)(hl:ys.length≤1000)(hlp:p.length≤1000)(hq:ys[k]?=some q)(hlq:q.length≤1000)(hik:i≠k) :
  Calls Tryz.prog 102 #[.slice (some ⟨g,0,none⟩) ys.length cap,.agg #[.int .i64 (i:Int),.int .i64 (k:Int)]] w fun e w'=>∃rvs',e = .returned (.tuple #[])∧z14 w' base (.slice (some ⟨g,0,none⟩) ys.length cap) ((ys.set i (p.take (p.length-1))).set k (q++[p.getD (p.length-1) ByteArray.empty])) rvs'∧Outside (.slice (some ⟨g,0,none⟩) ys.length cap) rvs w w':=by
 obtain⟨w1,hw1⟩:∃w1,w.alloc (.cells #[.int .i64 (i:Int),.int .i64 (k:Int)] 63)=w1:=⟨_,rfl⟩
 have h1:z14 w1 base (.slice (some ⟨g,0,none⟩) ys.length cap) ys rvs:=by rw[←hw1];exact h.kept (World.grownBy_alloc w _ none)
 obtain⟨r,q1,q2,hc1,hc1'⟩:=h1.row hp;have hi:i < ys.length:=(qp.1 hp).1;have hk:k < ys.length:=(qp.1 hq).1;obtain⟨b,c,rfl⟩:∃b c,r = .slice (some ⟨b,0,none⟩) p.length c:=by
  rcases q2.2 with⟨_,h0⟩|⟨b,c,_,h1,_⟩
  ·omega
  ·exact⟨b,c,h1⟩
 obtain⟨m,hm⟩:∃m,p.length=m+1:=⟨p.length-1,by omega⟩
 have hmc:m+1≤c:=by
  rcases q2.2 with⟨h0,_⟩|⟨_,_,_,h1,_,_,h2,_⟩
  ·cases h0
  ·cases h1;omega
 have htop:=yce h1 hp hpos hl hlp;have hw:=(World.alloc_heap_new w (.cells #[.int .i64 (i:Int),.int .i64 (k:Int)] 63))
 rw[hw1] at hw;have hz1:w1.heap.size=w.heap.size+1:=by rw[←hw1,World.size_alloc]
 have k0:w1.cell? ⟨w.heap.size,0,none⟩=some (.int .i64 (i:Int)):=z06 hw rfl;have k1:w1.cell? ⟨w.heap.size,1,none⟩=some (.int .i64 (k:Int)):=z06 hw rfl;have hgw:g≠w.heap.size:=by
  have:=h.shape (by omega);obtain⟨g',cap',e,_,hlt⟩:=this;simp only[Value.slice.injEq,qb,Addr.mk.injEq,and_true,true_and] at e;omega
 have e1:((m:Int)+1-1)=(m:Int):=by omega
 have hturn:=h1.turn (r1 :=.slice (some ⟨b,0,none⟩) m c) (y1:=p.take (p.length-1)) q1 ⟨rfl,rfl,rfl,ql _,fun _ _ _=>rfl⟩ (by
  have:=y18 q2 (m:=m) (by omega);rw[List.length_take,show min (p.length-1) p.length=m by omega,show p.length-1=m by omega];have e2:(strCells p).take m=strCells (p.take m):=by unfold strCells;rw[List.map_take]
  rw[e2] at this;exact this) (.inl rfl)
 generalize hsv:p.getD (p.length-1) ByteArray.empty=s at htop⊢;rw[hm] at hc1;have k0':(w1.setCell ⟨g,i,none⟩ (.slice (some ⟨b,0,none⟩) m c)).cell? ⟨w.heap.size,0,none⟩=some (.int .i64 (i:Int)):=(World.cell?_of_block (by simp[World.setCell,Array.getElem?_modify,hgw])).trans k0;have k1':(w1.setCell ⟨g,i,none⟩ (.slice (some ⟨b,0,none⟩) m c)).cell? ⟨w.heap.size,1,none⟩=some (.int .i64 (k:Int)):=(World.cell?_of_block (by simp[World.setCell,Array.getElem?_modify,hgw])).trans k1;have hout:=za2 (w:=w1) (w1:=w1) (g:=g) (cap:=cap) (n:=ys.length) (r1 :=.slice (some ⟨b,0,none⟩) m c) q1 ⟨rfl,rfl,rfl,ql _,fun _ _ _=>rfl⟩;obtain⟨w2,hw2⟩:∃w2,w1.setCell ⟨g,i,none⟩ (.slice (some ⟨b,0,none⟩) m c)=w2:=⟨_,rfl⟩
 rw[hw2] at k0' k1' hturn hout;have hz2:w2.heap.size=w.heap.size+1:=by rw[←hw2];simpa [World.setCell] using hz1
 obtain⟨w3,hw3⟩:∃w3,(w2.alloc (.cells #[.string s] 9)).drew.drew.drew=w3:=⟨_,rfl⟩
 have h3:z14 w3 base (.slice (some ⟨g,0,none⟩) (ys.set i (p.take (p.length-1))).length cap) (ys.set i (p.take (p.length-1))) (rvs.set i (.slice (some ⟨b,0,none⟩) m c)):=by rw[←hw3];exact(hturn.kept (World.grownBy_alloc _ _ none)).drew.drew.drew
 have hq':(ys.set i (p.take (p.length-1)))[k]?=some q:=by rw[List.getElem?_set_ne hik];exact hq
 obtain⟨r3,x1,x2,x3,x3'⟩:=h3.row hq';obtain⟨r2,y1,y2,y3,y3'⟩:=hturn.row hq';obtain rfl:r3=r2:=by rw[x1] at y1;exact Option.some.inj y1
 obtain⟨i0,d0,hi0⟩:=z0l y97;obtain⟨z,hz,hz1',_⟩:=hi0.zero (by rfl);have hby:=hi0.bytes;have hzs:z.cells.size=1:=by have:=z0u .str (fun _ _=>none) _ _ (hz1' _);exact(by simpa using this:z.cells.size=Ty.str.size)
 have hz3:w3.heap.size=w.heap.size+2:=by rw[←hw3];show(w2.alloc _).heap.size=_;rw[World.size_alloc];omega
 obtain⟨r4,w4,hrun,z1,z2,z3,z4⟩:=run_append_own_at (P:=Tryz.prog) w3 base 61 61 9 i0 z 1 i0.bytes u61 hi0.info hz hi0.size rfl hzs (by decide) r3 q.length (strCells q) x2 ⟨w2.heap.size,0,none⟩ 1 1 [.string s] rfl (by
  rw[←hw3];exact cell_one_new w2 (.string s) 9) (by intro u hu;rw[List.mem_singleton.1 hu];rfl) (by unfold maxLen;omega) (by
  have:=Nat.mul_le_mul (show q.length+1≤1001 by omega) hby;omega) (by omega)
 rw[hz2] at hrun;obtain⟨p4,n4,c4,rfl⟩:=zak z1;have hturn4:=h3.turn (r1 :=.slice p4 n4 c4) (y1:=q++[s]) x1 z2 (by
  rw[qe,qj];have:strCells (q++[s])=strCells q++[.string s]:=by unfold strCells;rw[List.map_append];rfl
  rw[this];exact z1) z4
 have k3:w3.cell? ⟨w.heap.size,1,none⟩=some (.int .i64 (k:Int)):=by rw[←hw3];exact(World.cell?_of_block (z3x w2 _ _ (by show w.heap.size < w2.heap.size;omega))).trans k1'
 have hr3:rvs[k]?=some r3:=by rw[List.getElem?_set_ne hik] at x1;exact x1
 have hn1:some w.heap.size≠r3.ownBlock:=fun e=>by
  have:=h.lt r3 (List.mem_of_getElem? hr3) _ e.symm;omega
 have hn2:some g≠r3.ownBlock:=by
  rcases z9s h3.outer x2 (by decide) with e|e
  ·rw[e];simp
  ·simp only[Value.ownBlock,ne_eq] at e⊢;exact fun h=>e h.symm
 have hlt1:w.heap.size < w3.heap.size:=by omega
 have hlt2:g < w3.heap.size:=World.block_lt_of_cell? w3 _ x3;have k4:w4.cell? ⟨w.heap.size,1,none⟩=some (.int .i64 (k:Int)):=(World.cell?_of_block (z2.block _ hlt1 hn1)).trans k3;have k5:w4.cell? ⟨g,k,none⟩=some r3:=(World.cell?_of_block (z2.block _ hlt2 hn2)).trans x3;have k6:w4.frozen? ⟨g,k,none⟩=false:=(World.frozen?_of_block (z2.block _ hlt2 hn2)).trans x3';have hout4:=za2 (w:=w3) (w1:=w4) (g:=g) (cap:=cap) (n:=(ys.set i (p.take (p.length-1))).length) (r1 :=.slice p4 n4 c4) x1 z2;have hfin:z14 (w4.setCell ⟨g,k,none⟩ (.slice p4 n4 c4)) base (.slice (some ⟨g,0,none⟩) ys.length cap) ((ys.set i (p.take (p.length-1))).set k (q++[s])) ((rvs.set i (.slice (some ⟨b,0,none⟩) m c)).set k (.slice p4 n4 c4))∧Outside (.slice (some ⟨g,0,none⟩) ys.length cap) rvs w (w4.setCell ⟨g,k,none⟩ (.slice p4 n4 c4)):=by
  refine⟨by rw[List.length_set,List.length_set] at hturn4;exact hturn4,⟨?_,?_,?_,?_,fun j hj hv hr => ?_⟩⟩
  ·refine hout4.os.trans (Eq.trans ?_ (hout.os.trans ?_))
   ·rw[←hw3];rfl
   ·rw[←hw1];rfl
  ·refine hout4.tape.trans (Eq.trans ?_ (hout.tape.trans ?_))
   ·rw[←hw3];rfl
   ·rw[←hw1];rfl
  ·refine hout4.output.trans (Eq.trans ?_ (hout.output.trans ?_))
   ·rw[←hw3];rfl
   ·rw[←hw1];rfl
  ·have:=hout4.size;omega
  ·have e4:=hout4.block j (by omega) hv fun r hm=>by
    rcases List.mem_or_eq_of_mem_set hm with hm|rfl
    ·exact hr r hm
    ·have:=hr _ (List.mem_of_getElem? q1);exact this
   have e3:w3.heap[j]?=w2.heap[j]?:=by rw[←hw3];exact z3x w2 _ _ (by omega)
   have e2:=hout.block j (by omega) hv hr;have e1:w1.heap[j]?=w.heap[j]?:=by rw[←hw1];exact Below.heap_alloc w _ j hj
   exact e4.trans (e3.trans (e2.trans e1))
 go_enter Tryz.func102,Tryz.ntmps102
 go_wp2_with (go_at_call 130;refine htop.mono ?_;clear htop;rintro e w2 ⟨rfl,rfl⟩)
 go_region
 all_goals
  go_wp2
  go_region_law (refine zae rfl (.tmp 36) (.tmp 38) 61 rfl r3 (.slice (some ⟨w.heap.size+1,0,none⟩) 1 1) (.slice p4 n4 c4) (by simp[Act.eval,Act.put]) (by simp[Act.eval,Act.put]) hrun ?_)
  all_goals
   go_wp2
   exact bodyPost_end (zuw _ _) rfl ⟨_,rfl,hfin.1,hfin.2⟩
end Go.Lift
namespace Go.Lift
open Go Go.Proofs Go.RowKit
attribute [local go_sem] Oper.semAt_some
theorem zww{A:Type}{d x:A}{l:List A}{i:Nat}(h:l[i]?=some x):lget d l (i:Int)=x:=by
 unfold lget;rw[Int.toNat_natCast,List.getD_eq_getElem?_getD,h];rfl
theorem zx7{A:Type}(d:A){l:List A}{i:Int}(h:(decide ((0:Int)≤i)&&decide (i < (l.length:Int)))=true):∃(j:Nat) (x:A),i=(j:Int)∧l[j]?=some x∧lget d l i=x:=by
 rw[qg,decide_eq_true_eq,decide_eq_true_eq] at h;refine⟨i.toNat,l[i.toNat]'(by omega),by omega,qr (by omega),?_⟩;unfold lget;rw[List.getD_eq_getElem?_getD,qr (by omega)];rfl
theorem zv5{y:List (List ByteArray)}{i:Nat}{p:List ByteArray}(h:y[i]?=some p):zco y ((i:Int),-1)=some (y.set i (p.take (p.length-1))):=by
 unfold zco lset;simp only[zww (d:=([]:List ByteArray)) h,Int.toNat_natCast];rfl
theorem zz3{y:List (List ByteArray)}{i k:Nat}{p q:List ByteArray}(h:y[i]?=some p)(hq:y[k]?=some q)(hik:i≠k)(hl:q.length≤1000):zco y ((i:Int),(k:Int))=some ((y.set i (p.take (p.length-1))).set k (q++[p.getD (p.length-1) ByteArray.empty])):=by
 have hq':(y.set i (p.take (p.length-1)))[k]?=some q:=by rw[List.getElem?_set_ne hik];exact hq
 have ht:lget ByteArray.empty p ((p.length:Int)-1)=p.getD (p.length-1) ByteArray.empty:=by
  unfold lget;rw[show((p.length:Int)-1).toNat=p.length-1 by omega]
 unfold zco lset;simp only[zww (d:=([]:List ByteArray)) h,Int.toNat_natCast,zww (d:=([]:List ByteArray)) hq',ht];rw[show(((k:Int)) != -1)=true by rw[bne_iff_ne];omega,cond_true,zlu (by rw[qj];omega)];rfl
theorem zsd{w:World}{base:Nat}{v:Value}{ys ns:List (List ByteArray)}{rvs:List Value}{m:Int×Int}(h:z14 w base v ys rvs)(hb:base≤w.heap.size)(hW:zce ys=true){i:Nat}{p:List ByteArray}(e1:m.1=(i:Int))(e2:ys[i]?=some p)(hpos:0 < p.length)(hk:m.2 = -1∨∃(k:Nat) (q:List ByteArray),m.2=(k:Int)∧ys[k]?=some q∧i≠k)(hn:zco ys m=some ns) :
  Calls Tryz.prog 102 #[v,.agg #[.int .i64 m.1,.int .i64 m.2]] w fun e w'=>∃rvs',e = .returned (.tuple #[])∧z14 w' base v ns rvs'∧Outside v rvs w w':=by
 unfold zce at hW;rw[qg,decide_eq_true_eq,List.all_eq_true] at hW;have hrow:∀(j:Nat) (q:List ByteArray),ys[j]?=some q→q.length≤999:=fun j q hq=>by simpa using hW.2 q (List.mem_of_getElem? hq)
 have hi:i < ys.length:=(qp.1 e2).1;obtain⟨g,cap,rfl,_,_⟩:=h.shape (by omega);obtain⟨m1,m2⟩:=m;simp only at e1 hk hn⊢;subst e1;have hp:=hrow i p e2;rcases hk with rfl|⟨k,q,rfl,f2,f3⟩
 ·rw[zv5 e2,qb] at hn;subst hn;refine(y1i h e2 hpos hW.1 (by omega)).mono fun e w' => ?_
  rintro⟨rvs',h1,h2,h3⟩;rw[List.length_set] at h2;exact⟨rvs',h1,h2,h3⟩
 ·have hq:=hrow k q f2;rw[zz3 e2 f2 f3 (by omega),qb] at hn;subst hn;exact y5n h hb e2 hpos hW.1 (by omega) f2 (by omega) f3
theorem ziw{M:Mem}{y:List (List ByteArray)}{v:Value}(hv:relV Tryz.prog TYd M y v)(hy:0 < y.length):∃b off cap,v = .slice (some ⟨b,off,none⟩) y.length cap∧∀j p,y[j]?=some p→∃r,M b (off+j)=some r∧relV Tryz.prog TWt M p r:=by
 obtain⟨v',h1,h2⟩:relC Tryz.prog TYd M y [v]:=hv;simp only[List.cons.injEq,and_true] at h1;subst h1;rcases h2 with⟨rfl,rfl⟩|⟨b,off,cap,cells,rfl,hcap,hlen,hm,hel⟩|⟨a,c,rfl,rfl⟩
 ·cases hy
 ·refine⟨b,off,cap,rfl,fun j p hj => ?_⟩;obtain⟨hlt,hs⟩:=qp.1 hj;have h3:relC Tryz.prog TWt M y[j] ((cells.drop (j*1)).take 1):=hel j hlt;rw[hs,Nat.mul_one,List.take_one,List.head?_drop] at h3;have hlt2:j < cells.length:=by rw[hlen];simpa [Ty.size] using hlt
  rw[qr hlt2] at h3;exact⟨cells[j],hm j _ (qr hlt2),h3⟩
 ·cases hy
theorem zrr{M:Mem}{m:z0t}{u:Value}(h:relV Tryz.prog z0d M m u):u = .agg #[.int .i64 m.1,.int .i64 m.2]:=by
 obtain⟨cs,rfl,h1,h2⟩:∃cs:Array Value,u = .agg cs∧relC Tryz.prog z0d M m cs.toList:=h
 have hl:=z0u z0d M m _ ⟨h1,h2⟩;obtain⟨l⟩:=cs;match l,hl with
 |[a,b],_=>
  simp only[relC,List.take,List.drop,Ty.size,List.cons.injEq,and_true] at h1 h2;subst h1 h2;rfl
theorem zaz{v:Value}{rvs:List Value}{w w':World}{B:Nat}{ys:List (List ByteArray)}(h:z14 w B v ys rvs)(hB:B≤w.heap.size)(ho:Outside v rvs w w'):Below B w w':=by
 refine⟨ho.os,ho.tape,ho.output,ho.size,fun k hk=>ho.block k (by omega) (fun e => ?_) fun r hr e => ?_⟩
 ·have:=(h.outer.lt k e.symm).1;omega
 ·obtain⟨j,hj,rfl⟩:=List.mem_iff_getElem.1 hr;have hl:rvs.length=ys.length:=by have:=h.outer.1;omega
  obtain⟨r,h1,h2⟩:=h.rows j ys[j] (qr (by omega));rw[qr hj,qb] at h1;rw[←h1] at h2;have:=(h2.lt k e.symm).1;omega
theorem zcd{y:List (List ByteArray)}(hW:zce y=true):y.length≤1000∧∀p∈y,p.length≤999:=by
 unfold zce at hW;rw[qg,decide_eq_true_eq,List.all_eq_true] at hW;exact⟨hW.1,fun p hp=>by simpa using hW.2 p hp⟩
end Go.Lift
