/-
  A move in a yard (walk), and the contract of the program's.
-/
import Derived.Test.YtggnjngdmadbaaaGreatDoorYaM
import Derived.Test.YtggnjngdmadbaaaGreatDoorYaA
set_option maxRecDepth 100000
set_option maxHeartbeats 4000000
set_option linter.all false
namespace Go.Lift
open Go Go.Proofs Go.RowKit
attribute [local go_sem] Oper.semAt_some
theorem ydl{w:World}{base g cap i:Nat}{ys:List (List js)}{rvs:List Value}{p:List js}(h:z18 w base (.slice (some ⟨g,0,none⟩) ys.length cap) ys rvs)(hp:ys[i]?=some p)(Qm:0<p.length)(hl:ys.length≤1000)(KQ:p.length≤1000):
  Calls Tryz.prog 130 #[.slice (some ⟨g,0,none⟩) ys.length cap,.int .i64 (i:Int)] w fun e w'=>e = .returned (.string (p.getD (p.length-1) ByteArray.empty))∧w'=w.drew:=by
 obtain⟨r,q1,q2⟩:=h.rows i p hp;have hi:i<ys.length:=(qp.1 hp).1;have Yt:w.cell? ⟨g,i,none⟩=some r:=by
  have:=h.outer.cells (g:=g) rfl i r q1;rwa [Addr.add_mk,qY]at this
 obtain⟨b,c,rfl⟩:∃b c,r = .slice (some ⟨b,0,none⟩) p.length c:=by
  rcases q2.2 with⟨_,h0⟩|⟨b,c,_,h1,_⟩
  ·omega
  ·exact⟨b,c,h1⟩
 obtain⟨m,hm⟩:∃m,p.length=m+1:=⟨p.length-1,by omega⟩
 have hs:p[m]?=some (p.getD (p.length-1) ByteArray.empty):=by
  rw[show p.length-1=m by omega,qC];cases e:p[m]? with
  |none=>rw[kG]at e;omega
  |some x=>rfl
 have Vj:w.cell? ⟨b,m,none⟩=some (.string (p.getD (p.length-1) ByteArray.empty)):=by
  have:=q2.cells (g:=b) rfl m (.string (p.getD (p.length-1) ByteArray.empty)) (by
   unfold strCells;rw[yG,hs];rfl)
  rwa [Addr.add_mk,qY]at this
 generalize p.getD (p.length-1) ByteArray.empty=s at Vj⊢;have e1:((m:Int)+1-1)=(m:Int):=by omega
 rw[hm]at Yt;go_enter Tryz.func130,Tryz.ntmps130
 go_wp2
 go_region
 all_goals
  go_wp2
  go_ret
  exact⟨rfl,rfl⟩
end Go.Lift
namespace Go.Lift
open Go Go.Proofs Go.RowKit
attribute [local go_sem] Oper.semAt_some
theorem z18.shape{w:World}{base:Nat}{v:Value}{ys:List (List js)}{rvs:List Value}(h:z18 w base v ys rvs)(hp:0<ys.length):∃g cap,v = .slice (some ⟨g,0,none⟩) ys.length cap∧base≤g∧g<w.heap.size:=by
 rcases h.outer.2 with⟨_,h0⟩|⟨b,c,jT,h1,h2,h3,_⟩
 ·omega
 ·exact⟨b,c,h1,h2,(qd.1 h3).1⟩
theorem z18.row{w:World}{base g cap i:Nat}{ys:List (List js)}{rvs:List Value}{p:List js}(h:z18 w base (.slice (some ⟨g,0,none⟩) ys.length cap) ys rvs)(hp:ys[i]?=some p):∃r,rvs[i]?=some r∧w.ownsRow base 9 1 r p.length (strCells p)∧w.cell? ⟨g,i,none⟩=some r∧w.frozen? ⟨g,i,none⟩=false:=by
 obtain⟨r,q1,q2⟩:=h.rows i p hp;refine⟨r,q1,q2,?_,?_⟩
 ·have:=h.outer.cells (g:=g) rfl i r q1;rwa [Addr.add_mk,qY]at this
 ·rcases h.outer.2 with⟨h1,_⟩|⟨b,c,jT,h1,_,h3,_⟩
  ·cases h1
  ·simp only[xb,qb,kN,zA,kO]at h1;obtain⟨rfl,rfl⟩:=h1;exact Vs h3
theorem PY{w:World}{base g n m cap e:Nat}{xs:List Value}(h:w.ownsRow base e 1 (.slice (some ⟨g,0,none⟩) n cap) n xs)(hm:m≤n):w.ownsRow base e 1 (.slice (some ⟨g,0,none⟩) m cap) m (xs.take m):=by
 rcases h.2 with⟨h1,_⟩|⟨b,c,jT,h1,h2,h3,h4,h5,h6,h7⟩
 ·cases h1
 ·simp only[xb,qb,kN,zA,kO]at h1;obtain⟨rfl,rfl⟩:=h1;refine⟨by rw[zE,h.1];omega,.inr ⟨g,cap,jT,rfl,h2,h3,by omega,h5,h6,?_⟩⟩;rw[←h7,xQ];congr 1
  omega
theorem z18.drew{w:World}{base:Nat}{v:Value}{ys:List (List js)}{rvs:List Value}(h:z18 w base v ys rvs):z18 w.drew base v ys rvs:=h.kept ⟨rfl,rfl,rfl,ql _,fun _ _ _=>rfl⟩
theorem ut{P:Program}{jA:Array Oper}{o:Oper}{a:Act}{w w':World}{K:Act→World→Prop}{Q:Exit→Act→World→Prop}{E:Prop}
  (hg:o.guard=none) (s x:Operand) (t:TypeId) (jx:o.op=Op.call {callee:=Callee.builtin Builtin.append,args := #[s,x],argTypes := #[t,t]})
  (v sl v':Value) (hs:a.eval s=v) (hx:a.eval x=sl) (jF:(Builtin.append_ #[t,t] o.type #[v,sl]).run P w = .ok v' w') (hK:K (a.put o.dst v') w'):
  if Region.wanted o (yielded jA a.tmps)=true then Oper.wp P o a w K Q else E:=by
 have hw:Region.wanted o (yielded jA a.tmps)=true:=by simp[Region.wanted,hg]
 rw[qH hw];unfold Oper.wp;simp[execOp,jx,resolve,invoke,builtin,hs,hx,jF,Result.andThen];exact hK
theorem Ic(tmps:Array Value)(w:World):(Go.results Tryz.f102 tmps).run Tryz.prog w = .ok (.tuple #[]) w:=by
 have Vf:Tryz.f102.results=#[]:=by kernel_rfl
 simp only[Go.results,Vf,qy,xa,xE,qD,qt,xX];rfl
theorem y2d{w:World}{base g cap i:Nat}{ys:List (List js)}{rvs:List Value}{p:List js}(h:z18 w base (.slice (some ⟨g,0,none⟩) ys.length cap) ys rvs)(hp:ys[i]?=some p)(Qm:0<p.length)(hl:ys.length≤1000)(KQ:p.length≤1000):
  Calls Tryz.prog 102 #[.slice (some ⟨g,0,none⟩) ys.length cap,.agg #[.int .i64 (i:Int),.int .i64 (-1)]] w fun e w'=>∃QI,e = .returned (.tuple #[])∧z18 w' base (.slice (some ⟨g,0,none⟩) (ys.set i (p.take (p.length-1))).length cap) (ys.set i (p.take (p.length-1))) QI∧Outside (.slice (some ⟨g,0,none⟩) ys.length cap) rvs w w':=by
 obtain⟨w1,v6⟩:∃w1,w.alloc (.cells #[.int .i64 (i:Int),.int .i64 (-1)] 63)=w1:=⟨_,rfl⟩
 have h1:z18 w1 base (.slice (some ⟨g,0,none⟩) ys.length cap) ys rvs:=by rw[←v6];exact h.kept (xN w _ none)
 obtain⟨r,q1,q2,Yt,O1⟩:=h1.row hp;have hi:i<ys.length:=(qp.1 hp).1;obtain⟨b,c,rfl⟩:∃b c,r = .slice (some ⟨b,0,none⟩) p.length c:=by
  rcases q2.2 with⟨_,h0⟩|⟨b,c,_,h1,_⟩
  ·omega
  ·exact⟨b,c,h1⟩
 obtain⟨m,hm⟩:∃m,p.length=m+1:=⟨p.length-1,by omega⟩
 have BC:m+1≤c:=by
  rcases q2.2 with⟨h0,_⟩|⟨_,_,_,h1,_,_,h2,_⟩
  ·cases h0
  ·cases h1;omega
 have X1:=ydl h1 hp Qm hl KQ;have hw:=(qz w (.cells #[.int .i64 (i:Int),.int .i64 (-1)] 63))
 rw[v6]at hw;have k0:w1.cell? ⟨w.heap.size,0,none⟩=some (.int .i64 (i:Int)):=va hw rfl;have k1:w1.cell? ⟨w.heap.size,1,none⟩=some (.int .i64 (-1)):=va hw rfl;have Q0:g≠w.heap.size:=by
  have:=h.shape (by omega);obtain⟨g',V0,e,_,hlt⟩:=this;simp only[xb,qb,kN,zA,kO]at e;omega
 have e1:((m:Int)+1-1)=(m:Int):=by omega
 have Jt:=h1.turn (r1 :=.slice (some ⟨b,0,none⟩) m c) (y1:=p.take (p.length-1)) q1 ⟨rfl,rfl,rfl,ql _,fun _ _ _=>rfl⟩ (by
  have:=PY q2 (m:=m) (by omega);rw[zE,show min (p.length-1) p.length=m by omega,show p.length-1=m by omega];have e2:(strCells p).take m=strCells (p.take m):=by unfold strCells;rw[List.map_take]
  rw[e2]at this;exact this) (.inl rfl)
 generalize p.getD (p.length-1) ByteArray.empty=s at X1;rw[hm]at Yt;go_enter Tryz.func102,Tryz.ntmps102
 go_wp2_with (go_at_call 130;refine X1.mono ?_;clear X1;rintro e w2 ⟨rfl,rfl⟩)
 have k0':(w1.setCell ⟨g,i,none⟩ (.slice (some ⟨b,0,none⟩) m c)).cell? ⟨w.heap.size,0,none⟩=some (.int .i64 (i:Int)):=(za (by simp[World.setCell,zL,Q0])).trans k0;have Nv:(w1.setCell ⟨g,i,none⟩ (.slice (some ⟨b,0,none⟩) m c)).cell? ⟨w.heap.size,1,none⟩=some (.int .i64 (-1)):=(za (by simp[World.setCell,zL,Q0])).trans k1;have Qn:=iy (w:=w1) (w1:=w1) (g:=g) (cap:=cap) (n:=ys.length) (r1 :=.slice (some ⟨b,0,none⟩) m c) q1 ⟨rfl,rfl,rfl,ql _,fun _ _ _=>rfl⟩;have Q9:z18 (w1.setCell ⟨g,i,none⟩ (.slice (some ⟨b,0,none⟩) m c)).drew.drew base (.slice (some ⟨g,0,none⟩) (ys.set i (p.take (p.length-1))).length cap) (ys.set i (p.take (p.length-1))) (rvs.set i (.slice (some ⟨b,0,none⟩) m c))∧Outside (.slice (some ⟨g,0,none⟩) ys.length cap) rvs w (w1.setCell ⟨g,i,none⟩ (.slice (some ⟨b,0,none⟩) m c)).drew.drew:=by
  refine⟨Jt.drew.drew,⟨?_,?_,?_,?_,fun k hk hv hr =>?_⟩⟩
  ·rw[←v6];rfl
  ·rw[←v6];rfl
  ·rw[←v6];rfl
  ·have:=Qn.size;rw[←v6]at this⊢;simp only[qQ]at this;simp only[World.drew];omega
  ·refine(Qn.block k (by rw[←v6,qQ];omega) hv hr).trans ?_;rw[←v6];exact yB w _ k hk
 go_region
 all_goals
  go_wp2
  exact bodyPost_end (Ic _ _) rfl ⟨_,rfl,Q9.1,Q9.2⟩
theorem Outside.trans{v v':Value}{rvs QI:List Value}{w w1 w2:World}(h:Outside v rvs w w1)(k:Outside v' QI w1 w2)(hv:v'.ownBlock=v.ownBlock)(hr:∀r∈QI,r.ownBlock=none∨∃s∈rvs,s.ownBlock=r.ownBlock):Outside v rvs w w2:=
 ⟨k.os.trans h.os,k.tape.trans h.tape,k.output.trans h.output,ze h.size k.size,fun j hj h1 h2=>(k.block j (qV hj h.size) (by rw[hv];exact h1) fun r hm=>by
  rcases hr r hm with e|⟨s,hs,e⟩
  ·rw[e];simp
  ·rw[←e];exact h2 s hs).trans (h.block j hj h1 h2)⟩
theorem y6l{w:World}{base g cap i k:Nat}{ys:List (List js)}{rvs:List Value}{p q:List js}(h:z18 w base (.slice (some ⟨g,0,none⟩) ys.length cap) ys rvs)(hb:base≤w.heap.size)(hp:ys[i]?=some p)(Qm:0<p.length)(hl:ys.length≤1000)(KQ:p.length≤1000)(hq:ys[k]?=some q)(hlq:q.length≤1000)(Qa:i≠k):
  Calls Tryz.prog 102 #[.slice (some ⟨g,0,none⟩) ys.length cap,.agg #[.int .i64 (i:Int),.int .i64 (k:Int)]] w fun e w'=>∃QI,e = .returned (.tuple #[])∧z18 w' base (.slice (some ⟨g,0,none⟩) ys.length cap) ((ys.set i (p.take (p.length-1))).set k (q++[p.getD (p.length-1) ByteArray.empty])) QI∧Outside (.slice (some ⟨g,0,none⟩) ys.length cap) rvs w w':=by
 obtain⟨w1,v6⟩:∃w1,w.alloc (.cells #[.int .i64 (i:Int),.int .i64 (k:Int)] 63)=w1:=⟨_,rfl⟩
 have h1:z18 w1 base (.slice (some ⟨g,0,none⟩) ys.length cap) ys rvs:=by rw[←v6];exact h.kept (xN w _ none)
 obtain⟨r,q1,q2,Yt,O1⟩:=h1.row hp;have hi:i<ys.length:=(qp.1 hp).1;have hk:k<ys.length:=(qp.1 hq).1;obtain⟨b,c,rfl⟩:∃b c,r = .slice (some ⟨b,0,none⟩) p.length c:=by
  rcases q2.2 with⟨_,h0⟩|⟨b,c,_,h1,_⟩
  ·omega
  ·exact⟨b,c,h1⟩
 obtain⟨m,hm⟩:∃m,p.length=m+1:=⟨p.length-1,by omega⟩
 have BC:m+1≤c:=by
  rcases q2.2 with⟨h0,_⟩|⟨_,_,_,h1,_,_,h2,_⟩
  ·cases h0
  ·cases h1;omega
 have X1:=ydl h1 hp Qm hl KQ;have hw:=(qz w (.cells #[.int .i64 (i:Int),.int .i64 (k:Int)] 63))
 rw[v6]at hw;have Z4:w1.heap.size=w.heap.size+1:=by rw[←v6,qQ]
 have k0:w1.cell? ⟨w.heap.size,0,none⟩=some (.int .i64 (i:Int)):=va hw rfl;have k1:w1.cell? ⟨w.heap.size,1,none⟩=some (.int .i64 (k:Int)):=va hw rfl;have Q0:g≠w.heap.size:=by
  have:=h.shape (by omega);obtain⟨g',V0,e,_,hlt⟩:=this;simp only[xb,qb,kN,zA,kO]at e;omega
 have e1:((m:Int)+1-1)=(m:Int):=by omega
 have Jt:=h1.turn (r1 :=.slice (some ⟨b,0,none⟩) m c) (y1:=p.take (p.length-1)) q1 ⟨rfl,rfl,rfl,ql _,fun _ _ _=>rfl⟩ (by
  have:=PY q2 (m:=m) (by omega);rw[zE,show min (p.length-1) p.length=m by omega,show p.length-1=m by omega];have e2:(strCells p).take m=strCells (p.take m):=by unfold strCells;rw[List.map_take]
  rw[e2]at this;exact this) (.inl rfl)
 generalize dR:p.getD (p.length-1) ByteArray.empty=s at X1⊢;rw[hm]at Yt;have k0':(w1.setCell ⟨g,i,none⟩ (.slice (some ⟨b,0,none⟩) m c)).cell? ⟨w.heap.size,0,none⟩=some (.int .i64 (i:Int)):=(za (by simp[World.setCell,zL,Q0])).trans k0;have Nv:(w1.setCell ⟨g,i,none⟩ (.slice (some ⟨b,0,none⟩) m c)).cell? ⟨w.heap.size,1,none⟩=some (.int .i64 (k:Int)):=(za (by simp[World.setCell,zL,Q0])).trans k1;have Qn:=iy (w:=w1) (w1:=w1) (g:=g) (cap:=cap) (n:=ys.length) (r1 :=.slice (some ⟨b,0,none⟩) m c) q1 ⟨rfl,rfl,rfl,ql _,fun _ _ _=>rfl⟩;obtain⟨w2,Yc⟩:∃w2,w1.setCell ⟨g,i,none⟩ (.slice (some ⟨b,0,none⟩) m c)=w2:=⟨_,rfl⟩
 rw[Yc]at k0' Nv Jt Qn;have G3:w2.heap.size=w.heap.size+1:=by rw[←Yc];simpa [World.setCell]using Z4
 obtain⟨w3,YT⟩:∃w3,(w2.alloc (.cells #[.string s] 9)).drew.drew.drew=w3:=⟨_,rfl⟩
 have h3:z18 w3 base (.slice (some ⟨g,0,none⟩) (ys.set i (p.take (p.length-1))).length cap) (ys.set i (p.take (p.length-1))) (rvs.set i (.slice (some ⟨b,0,none⟩) m c)):=by rw[←YT];exact(Jt.kept (xN _ _ none)).drew.drew.drew
 have Dv:(ys.set i (p.take (p.length-1)))[k]?=some q:=by rw[kz Qa];exact hq
 obtain⟨r3,x1,x2,x3,x3'⟩:=h3.row Dv;obtain⟨r2,y1,y2,y3,y3'⟩:=Jt.row Dv;obtain rfl:r3=r2:=by rw[x1]at y1;exact zQ y1
 obtain⟨i0,d0,Qh⟩:=Qx nT;obtain⟨z,hz,dL,_⟩:=Qh.zero (by rfl);have HD:=Qh.bytes;have Ko:z.cells.size=1:=by have:=Qp .str (fun _ _=>none) _ _ (dL _);exact(by simpa using this:z.cells.size=Ty.str.size)
 have oO:w3.heap.size=w.heap.size+2:=by rw[←YT];show(w2.alloc _).heap.size=_;rw[qQ];omega
 obtain⟨r4,w4,jF,z1,z2,z3,z4⟩:=je (P:=Tryz.prog) w3 base 61 61 9 i0 z 1 i0.bytes SC Qh.info hz Qh.size rfl Ko (by decide) r3 q.length (strCells q) x2 ⟨w2.heap.size,0,none⟩ 1 1 [.string s] rfl (by
  rw[←YT];exact cell_one_new w2 (.string s) 9) (by intro u hu;rw[qE.1 hu];rfl) (by unfold maxLen;omega) (by
  have:=xG (show q.length+1≤1001 by omega) HD;omega) (by omega)
 rw[G3]at jF;obtain⟨p4,n4,c4,rfl⟩:=C0 z1;have Dj:=h3.turn (r1 :=.slice p4 n4 c4) (y1:=q++[s]) x1 z2 (by
  rw[qe,qj];have:strCells (q++[s])=strCells q++[.string s]:=by unfold strCells;rw[zv];rfl
  rw[this];exact z1) z4
 have k3:w3.cell? ⟨w.heap.size,1,none⟩=some (.int .i64 (k:Int)):=by rw[←YT];exact(za (WL w2 _ _ (by show w.heap.size<w2.heap.size;omega))).trans Nv
 have o9:rvs[k]?=some r3:=by rw[kz Qa]at x1;exact x1
 have G8:some w.heap.size≠r3.ownBlock:=fun e=>by
  have:=h.lt r3 (qK o9) _ e.symm;omega
 have VP:some g≠r3.ownBlock:=by
  rcases bK h3.outer x2 (by decide)with e|e
  ·rw[e];simp
  ·simp only[Value.ownBlock,ne_eq]at e⊢;exact fun h=>e h.symm
 have ej:w.heap.size<w3.heap.size:=by omega
 have VQ:g<w3.heap.size:=zc w3 _ x3;have k4:w4.cell? ⟨w.heap.size,1,none⟩=some (.int .i64 (k:Int)):=(za (z2.block _ ej G8)).trans k3;have k5:w4.cell? ⟨g,k,none⟩=some r3:=(za (z2.block _ VQ VP)).trans x3;have k6:w4.frozen? ⟨g,k,none⟩=false:=(World.frozen?_of_block (z2.block _ VQ VP)).trans x3';have Jw:=iy (w:=w3) (w1:=w4) (g:=g) (cap:=cap) (n:=(ys.set i (p.take (p.length-1))).length) (r1 :=.slice p4 n4 c4) x1 z2;have Q9:z18 (w4.setCell ⟨g,k,none⟩ (.slice p4 n4 c4)) base (.slice (some ⟨g,0,none⟩) ys.length cap) ((ys.set i (p.take (p.length-1))).set k (q++[s])) ((rvs.set i (.slice (some ⟨b,0,none⟩) m c)).set k (.slice p4 n4 c4))∧Outside (.slice (some ⟨g,0,none⟩) ys.length cap) rvs w (w4.setCell ⟨g,k,none⟩ (.slice p4 n4 c4)):=by
  refine⟨by rw[yx,yx]at Dj;exact Dj,⟨?_,?_,?_,?_,fun j hj hv hr =>?_⟩⟩
  ·refine Jw.os.trans (Eq.trans ?_ (Qn.os.trans ?_))
   ·rw[←YT];rfl
   ·rw[←v6];rfl
  ·refine Jw.tape.trans (Eq.trans ?_ (Qn.tape.trans ?_))
   ·rw[←YT];rfl
   ·rw[←v6];rfl
  ·refine Jw.output.trans (Eq.trans ?_ (Qn.output.trans ?_))
   ·rw[←YT];rfl
   ·rw[←v6];rfl
  ·have:=Jw.size;omega
  ·have e4:=Jw.block j (by omega) hv fun r hm=>by
    rcases xT hm with hm|rfl
    ·exact hr r hm
    ·have:=hr _ (qK q1);exact this
   have e3:w3.heap[j]?=w2.heap[j]?:=by rw[←YT];exact WL w2 _ _ (by omega)
   have e2:=Qn.block j (by omega) hv hr;have e1:w1.heap[j]?=w.heap[j]?:=by rw[←v6];exact yB w _ j hj
   exact e4.trans (e3.trans (e2.trans e1))
 go_enter Tryz.func102,Tryz.ntmps102
 go_wp2_with (go_at_call 130;refine X1.mono ?_;clear X1;rintro e w2 ⟨rfl,rfl⟩)
 go_region
 all_goals
  go_wp2
  go_region_law (refine ut rfl (.tmp 36) (.tmp 38) 61 rfl r3 (.slice (some ⟨w.heap.size+1,0,none⟩) 1 1) (.slice p4 n4 c4) (by simp[Act.eval,Act.put]) (by simp[Act.eval,Act.put]) jF ?_)
  all_goals
   go_wp2
   exact bodyPost_end (Ic _ _) rfl ⟨_,rfl,Q9.1,Q9.2⟩
end Go.Lift
namespace Go.Lift
open Go Go.Proofs Go.RowKit
attribute [local go_sem] Oper.semAt_some
theorem TN{A:Type}{d x:A}{l:List A}{i:Nat}(h:l[i]?=some x):jt d l (i:Int)=x:=by
 unfold jt;rw[yP,qC,h];rfl
theorem sK{A:Type}(d:A){l:List A}{i:Int}(h:(decide ((0:Int)≤i)&&decide (i<(l.length:Int)))=true):∃(j:Nat) (x:A),i=(j:Int)∧l[j]?=some x∧jt d l i=x:=by
 rw[qg,qI,qI]at h;refine⟨i.toNat,l[i.toNat]'(by omega),by omega,qr (by omega),?_⟩;unfold jt;rw[qC,qr (by omega)];rfl
theorem y6k{y:List (List js)}{m:Int×Int}(h:Qb y m=0):∃(i:Nat) (p:List js),m.1=(i:Int)∧y[i]?=some p∧0<p.length∧(m.2 = -1∨∃(k:Nat) (q:List js),m.2=(k:Int)∧y[k]?=some q∧q.length<6∧i≠k):=by
 unfold Qb G1 at h;by_cases h1:0≤m.1∧m.1≤(y.length:Int)-1
 ·rw [jJ h1,zi,yF]at h;obtain⟨i,p,e1,e2,e3⟩:=sK (l:=y) [] (i:=m.1) (wX (jJ h1.1) (jJ (by omega)));refine⟨i,p,e1,e2,?_⟩;rw[e3]at h;cases hc:!decide (0≤m.2∧m.2≤(y.length:Int)-1)&&m.2 != -1 with
  |true=>rw[hc]at h;cases h
  |false=>
   rw[hc,qu]at h;cases hp:((p.length:Int)==0)with
   |true=>rw[hp]at h;cases h
   |false=>
    rw[hp,qu]at h;have Qm:0<p.length:=by
     rw[qU]at hp;omega
    refine⟨Qm,?_⟩;cases he:m.1==m.2 with
    |true=>rw[he]at h;cases h
    |false=>
     rw[he,qu]at h;by_cases hm:m.2 = -1
     ·exact .inl hm
     ·right;have hm':(m.2 != -1)=true:=by rw[zP];exact hm
      rw[hm',Bool.and_true,Bool.not_eq_false',qI]at hc;obtain⟨k,q,f1,f2,f3⟩:=sK (l:=y) [] (i:=m.2) (wX (jJ hc.1) (jJ (by omega)));rw[hm',zJ,f3]at h;refine⟨k,q,f1,f2,?_,fun e =>?_⟩
      ·by_cases h6:(q.length:Int)≥6
       ·rw[jJ h6]at h;cases h
       ·omega
      ·rw[qU]at he;omega
 ·rw[vG h1]at h;cases h
theorem L6{y:List (List js)}{i:Nat}{p:List js}(h:y[i]?=some p):V7 y ((i:Int),-1)=some (y.set i (p.take (p.length-1))):=by
 unfold V7 QK;simp only[TN (d:=([]:List js)) h,yP];rfl
theorem Lf{y:List (List js)}{i k:Nat}{p q:List js}(h:y[i]?=some p)(hq:y[k]?=some q)(Qa:i≠k)(hl:q.length≤1000):V7 y ((i:Int),(k:Int))=some ((y.set i (p.take (p.length-1))).set k (q++[p.getD (p.length-1) ByteArray.empty])):=by
 have Dv:(y.set i (p.take (p.length-1)))[k]?=some q:=by rw[kz Qa];exact hq
 have ht:jt ByteArray.empty p ((p.length:Int)-1)=p.getD (p.length-1) ByteArray.empty:=by
  unfold jt;rw[show((p.length:Int)-1).toNat=p.length-1 by omega]
 unfold V7 QK;simp only[TN (d:=([]:List js)) h,yP,TN (d:=([]:List js)) Dv,ht];rw[show(((k:Int)) != -1)=true by rw[zP];omega,qv,Eb (by rw[qj];omega)];rfl
theorem y2e{w:World}{base:Nat}{v:Value}{ys ns:List (List js)}{rvs:List Value}{m:Int×Int}(h:z18 w base v ys rvs)(hb:base≤w.heap.size)(hW:Vo ys=true){i:Nat}{p:List js}(e1:m.1=(i:Int))(e2:ys[i]?=some p)(Qm:0<p.length)(hk:m.2 = -1∨∃(k:Nat) (q:List js),m.2=(k:Int)∧ys[k]?=some q∧i≠k)(hn:V7 ys m=some ns):
  Calls Tryz.prog 102 #[v,.agg #[.int .i64 m.1,.int .i64 m.2]] w fun e w'=>∃QI,e = .returned (.tuple #[])∧z18 w' base v ns QI∧Outside v rvs w w':=by
 unfold Vo at hW;rw[qg,qI,qW]at hW;have vX:∀(j:Nat) (q:List js),ys[j]?=some q→q.length≤999:=fun j q hq=>by simpa using hW.2 q (qK hq)
 have hi:i<ys.length:=(qp.1 e2).1;obtain⟨g,cap,rfl,_,_⟩:=h.shape (by omega);obtain⟨m1,m2⟩:=m;simp only at e1 hk hn⊢;subst e1;have hp:=vX i p e2;rcases hk with rfl|⟨k,q,rfl,f2,f3⟩
 ·rw[L6 e2,qb]at hn;subst hn;refine(y2d h e2 Qm hW.1 (by omega)).mono fun e w' =>?_
  rintro⟨QI,h1,h2,h3⟩;rw[yx]at h2;exact⟨QI,h1,h2,h3⟩
 ·have hq:=vX k q f2;rw[Lf e2 f2 f3 (by omega),qb]at hn;subst hn;exact y6l h hb e2 Qm hW.1 (by omega) f2 (by omega) f3
theorem tz{M:Mem}{y:List (List js)}{v:Value}(hv:jz Tryz.prog YP M y v)(hy:0<y.length):∃b off cap,v = .slice (some ⟨b,off,none⟩) y.length cap∧∀j p,y[j]?=some p→∃r,M b (off+j)=some r∧jz Tryz.prog Zc M p r:=by
 obtain⟨v',h1,h2⟩:jB Tryz.prog YP M y [v]:=hv;simp only[qM,zA]at h1;subst h1;rcases h2 with⟨rfl,rfl⟩|⟨b,off,cap,cells,rfl,ZS,jH,hm,Xb⟩|⟨a,c,rfl,rfl⟩
 ·cases hy
 ·refine⟨b,off,cap,rfl,fun j p hj =>?_⟩;obtain⟨hlt,hs⟩:=qp.1 hj;have h3:jB Tryz.prog Zc M y[j] ((cells.drop (j*1)).take 1):=Xb j hlt;rw[hs,xe,List.take_one,List.head?_drop]at h3;have VQ:j<cells.length:=by rw[jH];simpa [Ty.size]using hlt
  rw[qr VQ]at h3;exact⟨cells[j],hm j _ (qr VQ),h3⟩
 ·cases hy
theorem Lo{M:Mem}{m:Z0}{u:Value}(h:jz Tryz.prog wP M m u):u = .agg #[.int .i64 m.1,.int .i64 m.2]:=by
 obtain⟨cs,rfl,h1,h2⟩:∃cs:Array Value,u = .agg cs∧jB Tryz.prog wP M m cs.toList:=h
 have hl:=Qp wP M m _ ⟨h1,h2⟩;obtain⟨l⟩:=cs;match l,hl with
 |[a,b],_=>
  simp only[jB,List.take,List.drop,Ty.size,qM,zA]at h1 h2;subst h1 h2;rfl
theorem uf{v:Value}{rvs:List Value}{w w':World}{B:Nat}{ys:List (List js)}(h:z18 w B v ys rvs)(hB:B≤w.heap.size)(ho:Outside v rvs w w'):Below B w w':=by
 refine⟨ho.os,ho.tape,ho.output,ho.size,fun k hk=>ho.block k (by omega) (fun e =>?_) fun r hr e =>?_⟩
 ·have:=(h.outer.lt k e.symm).1;omega
 ·obtain⟨j,hj,rfl⟩:=xh.1 hr;have hl:rvs.length=ys.length:=by have:=h.outer.1;omega
  obtain⟨r,h1,h2⟩:=h.rows j ys[j] (qr (by omega));rw[qr hj,qb]at h1;rw[←h1]at h2;have:=(h2.lt k e.symm).1;omega
theorem bH{y:List (List js)}(hW:Vo y=true):y.length≤1000∧∀p∈y,p.length≤999:=by
 unfold Vo at hW;rw[qg,qI,qW]at hW;exact⟨hW.1,fun p hp=>by simpa using hW.2 p hp⟩
end Go.Lift
