/-
  The contract of the reference's move.
-/
import Derived.Test.YtggnjngdmadbaaaGreatDoorYaN
set_option maxRecDepth 100000
set_option maxHeartbeats 4000000
set_option linter.all false
namespace Go.Lift
open Go Go.Proofs Go.RowKit
attribute [local go_sem] Oper.semAt_some
theorem T5(n lo hi:Int)(w:World):Calls Tryz.prog 20 #[.int .i64 n,.int .i64 lo,.int .i64 hi] w fun e w'=>e = .returned (.bool (decide (lo≤n)&&decide (n≤hi)))∧w'=w:=by
 by_cases h1:lo≤n
 ·by_cases h2:n≤hi
  ·rw[jJ h1,jJ h2];go_enter Tryz.func20,Tryz.ntmps20
   go_wp2
   go_ret
   exact⟨rfl,rfl⟩
  ·rw[jJ h1,vG h2];go_enter Tryz.func20,Tryz.ntmps20
   go_wp2
   go_ret
   exact⟨rfl,rfl⟩
 ·rw[vG h1,zS];go_enter Tryz.func20,Tryz.ntmps20
  go_wp2
  go_ret
  exact⟨rfl,rfl⟩
theorem br{M:Mem}{q:List js}{r:Value}(h:jz Tryz.prog Zc M q r):∃a c,r = .slice a q.length c:=by
 obtain⟨v',h1,h2⟩:jB Tryz.prog Zc M q [r]:=h;simp only[qM,zA]at h1;subst h1;rcases h2 with⟨rfl,rfl⟩|⟨b,off,cap,cells,rfl,_⟩|⟨a,c,rfl,rfl⟩
 ·exact⟨_,_,rfl⟩
 ·exact⟨_,_,rfl⟩
 ·exact⟨_,_,rfl⟩
theorem z18.pile{w:World}{base i:Nat}{v:Value}{ys:List (List js)}{rvs:List Value}{p:List js}{m:Nat}(h:z18 w base v ys rvs)(hp:ys[i]?=some p)(hm:p.length=m+1):∃g cap b c,v = .slice (some ⟨g,0,none⟩) ys.length cap∧base≤g∧g<w.heap.size∧m+1≤c∧rvs[i]?=some (.slice (some ⟨b,0,none⟩) (m+1) c)∧w.ownsRow base 9 1 (.slice (some ⟨b,0,none⟩) (m+1) c) (m+1) (strCells p)∧
  w.cell? ⟨g,i,none⟩=some (.slice (some ⟨b,0,none⟩) (m+1) c)∧w.frozen? ⟨g,i,none⟩=false∧w.cell? ⟨b,m,none⟩=some (.string (p.getD (p.length-1) ByteArray.empty)):=by
 have hi:i<ys.length:=(qp.1 hp).1;obtain⟨g,cap,rfl,Yg,wE⟩:=h.shape (by omega);obtain⟨r,q1,q2,c1,c1'⟩:=h.row hp;obtain⟨b,c,rfl,BC⟩:∃b c,r = .slice (some ⟨b,0,none⟩) p.length c∧p.length≤c:=by
  rcases q2.2 with⟨_,h0⟩|⟨b,c,_,h1,_,_,h2,_⟩
  ·omega
  ·exact⟨b,c,h1,h2⟩
 have hs:p[m]?=some (p.getD (p.length-1) ByteArray.empty):=by
  rw[show p.length-1=m by omega,qC];cases e:p[m]? with
  |none=>rw[kG]at e;omega
  |some x=>rfl
 have Vj:w.cell? ⟨b,m,none⟩=some (.string (p.getD (p.length-1) ByteArray.empty)):=by
  have:=q2.cells (g:=b) rfl m (.string (p.getD (p.length-1) ByteArray.empty)) (by
   unfold strCells;rw[yG,hs];rfl)
  rwa [Addr.add_mk,qY]at this
 rw[hm]at q1 q2 c1 BC;exact⟨g,cap,b,c,rfl,Yg,wE,BC,q1,q2,c1,c1',Vj⟩
theorem z18.cut{w:World}{base g cap i m b c:Nat}{ys:List (List js)}{rvs:List Value}{p:List js}(h:z18 w base (.slice (some ⟨g,0,none⟩) ys.length cap) ys rvs)(hm:p.length=m+1)(q1:rvs[i]?=some (.slice (some ⟨b,0,none⟩) (m+1) c))(q2:w.ownsRow base 9 1 (.slice (some ⟨b,0,none⟩) (m+1) c) (m+1) (strCells p)):
  z18 (w.setCell ⟨g,i,none⟩ (.slice (some ⟨b,0,none⟩) m c)) base (.slice (some ⟨g,0,none⟩) (ys.set i (p.take (p.length-1))).length cap) (ys.set i (p.take (p.length-1))) (rvs.set i (.slice (some ⟨b,0,none⟩) m c)):=
 h.turn (r1 :=.slice (some ⟨b,0,none⟩) m c) (y1:=p.take (p.length-1)) q1 ⟨rfl,rfl,rfl,ql _,fun _ _ _=>rfl⟩ (by
  have:=PY q2 (m:=m) (by omega);rw[zE,show min (p.length-1) p.length=m by omega,show p.length-1=m by omega];have e2:(strCells p).take m=strCells (p.take m):=by unfold strCells;rw[List.map_take]
  rw[e2]at this;exact this) (.inl rfl)
theorem y2c{M:Mem}{w:World}(hg:Good M w){y:List (List js)}{i:Nat}{p:List js}{v:Value}(hv:jz Tryz.prog YP M y v)(hW:Vo y=true)(e2:y[i]?=some p)(Qm:0<p.length):
    Calls Tryz.prog 43 #[v,.agg #[.int .i64 (i:Int),.int .i64 (-1)]] w fun e w'=>∃M' u,e = .returned (.tuple #[u,.int .i64 0])∧jz Tryz.prog YP M' (y.set i (p.take (p.length-1))) u∧Good M' w'∧vm M w M' w':=by
  obtain⟨hl,KQ⟩:=bH hW;have hi:i<y.length:=(qp.1 e2).1;obtain⟨m,hm⟩:∃m,p.length=m+1:=⟨p.length-1,by omega⟩
  have lw:m<999:=by have:=KQ p (qK e2);omega
  obtain⟨b,off,cap,rfl,wJ⟩:=tz hv (by omega);obtain⟨w1,v6⟩:∃w1,w.alloc (.cells #[.int .i64 (i:Int),.int .i64 (-1)] 63)=w1:=⟨_,rfl⟩
  have Qu:Below w.heap.size w w1:=by rw[←v6];exact(qN _ w).alloc (ql _) _
  have Yg:Good M w1:=Zu hg Qu;have wj:=qz w (.cells #[.int .i64 (i:Int),.int .i64 (-1)] 63);rw[v6]at wj;have k0:w1.cell? ⟨w.heap.size,0,none⟩=some (.int .i64 (i:Int)):=va wj rfl;have k1:w1.cell? ⟨w.heap.size,1,none⟩=some (.int .i64 (-1)):=va wj rfl;have Z4:w1.heap.size=w.heap.size+1:=by rw[←v6,qQ]
  obtain⟨r0,x1,x2⟩:=wJ i p e2;obtain⟨a0,c0,rfl⟩:=br x2;rw[hm]at x1;have k2:w1.cell? ⟨b,off+i,none⟩=some (.slice a0 (m+1) c0):=Yg.2 _ _ _ x1;have Gk:=ye9 (cap:=cap) Yg hl (fun j q hj=>by
    obtain⟨r,q1,q2⟩:=wJ j q hj;exact⟨r,Yg.2 _ _ _ q1,q2,by have:=KQ q (qK hj);omega⟩)
  have fin:∀(w2:World) (v2:Value) (rvs:List Value),z18 w2 w1.heap.size v2 y rvs→Below w1.heap.size w1 w2→∃g YO b2 c2,v2 = .slice (some ⟨g,0,none⟩) y.length YO∧m+1≤c2∧
      w2.cell? ⟨w.heap.size,0,none⟩=some (.int .i64 (i:Int))∧w2.cell? ⟨w.heap.size,1,none⟩=some (.int .i64 (-1))∧
      w2.cell? ⟨g,i,none⟩=some (.slice (some ⟨b2,0,none⟩) (m+1) c2)∧w2.frozen? ⟨g,i,none⟩=false∧w2.cell? ⟨b2,m,none⟩=some (.string (p.getD (p.length-1) ByteArray.empty))∧
      (w2.setCell ⟨g,i,none⟩ (.slice (some ⟨b2,0,none⟩) m c2)).cell? ⟨w.heap.size,1,none⟩=some (.int .i64 (-1))∧
      ∃M' ,jz Tryz.prog YP M' (y.set i (p.take (p.length-1))) v2∧Good M' (w2.setCell ⟨g,i,none⟩ (.slice (some ⟨b2,0,none⟩) m c2)).drew∧vm M w M' (w2.setCell ⟨g,i,none⟩ (.slice (some ⟨b2,0,none⟩) m c2)).drew:=fun w2 v2 rvs hY hB=>by
    obtain⟨g,YO,b2,c2,rfl,y1,y2,y3,y4,y5,y6,y7,y8⟩:=hY.pile e2 hm;have hh:=(hB.block w.heap.size (by omega)).trans wj;have VV:=hY.cut hm y4 y5;have Qn:=iy (w:=w2) (w1:=w2) (g:=g) (cap:=YO) (n:=y.length) (r1 :=.slice (some ⟨b2,0,none⟩) m c2) y4 ⟨rfl,rfl,rfl,ql _,fun _ _ _=>rfl⟩;have BS:=hB.trans (uf hY hB.size Qn);have FY:Below w.heap.size w (w2.setCell ⟨g,i,none⟩ (.slice (some ⟨b2,0,none⟩) m c2)).drew:=Qu.trans ⟨BS.os,BS.tape,BS.output,BS.size,fun j hj=>BS.block j (qV hj Qu.size)⟩;refine⟨g,YO,b2,c2,rfl,y3,va hh rfl,va hh rfl,y6,y7,y8,?_,J7 w.heap.size M (w2.setCell ⟨g,i,none⟩ (.slice (some ⟨b2,0,none⟩) m c2)).drew,?_,Rg (Zu hg FY),Rh FY⟩
    · exact(za (by simp[World.setCell,zL,show g≠w.heap.size by omega])).trans (va hh rfl)
    · have:=(VV.drew.base Qu.size).rel (M:=M)
      rw[yx]at this;exact this
  have dN:∀W:World,Calls Tryz.prog 20 #[.int .i64 (i:Int),.int .i64 0,.int .i64 ((y.length:Int)-1)] W fun e w'=>e = .returned (.bool true)∧w'=W:=fun W=>by
    have:=T5 (i:Int) 0 ((y.length:Int)-1) W;rwa [jJ (show(0:Int)≤(i:Int) by omega),jJ (show(i:Int)≤(y.length:Int)-1 by omega)]at this
  have Vf:Tryz.f43.results=#[.tmp 4,.tmp 5]:=by kernel_rfl
  have em:(m:Int)+1-1=(m:Int):=by omega
  clear hv wJ KQ e2 Qm x1 x2;go_enter Tryz.func43,Tryz.ntmps43
  go_wp2_with (first
    |(go_at_call 20;refine(dN _).mono ?_;rintro e w2 ⟨rfl,rfl⟩)
    |(go_at_call 38;refine Gk.mono ?_;clear Gk;rintro e w2 ⟨v2,rvs,rfl,hY,hB⟩;obtain⟨g,YO,b2,c2,rfl,BC,d0,d1,d2,d3,d4,d5,M',z1,z2,z3⟩:=fin w2 v2 rvs hY hB;clear fin hY))
  go_region
  all_goals
    go_wp2
    refine zu (v :=.tuple #[.slice (some ⟨g,0,none⟩) y.length YO,.int .i64 0]) ?_ rfl ⟨M',_,rfl,z1,z2,z3⟩;simp only[Go.results,Vf,qy,xa,xm,xE,qD,qt,xX];rfl
end Go.Lift
namespace Go.Lift
open Go Go.Proofs Go.RowKit
attribute [local go_sem] Oper.semAt_some
theorem y6j{M:Mem}{w:World}(hg:Good M w){y:List (List js)}{i k:Nat}{p q:List js}{v:Value}(hv:jz Tryz.prog YP M y v)(hW:Vo y=true)(e2:y[i]?=some p)(Qm:0<p.length)(f2:y[k]?=some q)(hq6:q.length<6)(Qa:i≠k):
    Calls Tryz.prog 43 #[v,.agg #[.int .i64 (i:Int),.int .i64 (k:Int)]] w fun e w'=>∃M' u,e = .returned (.tuple #[u,.int .i64 0])∧jz Tryz.prog YP M' ((y.set i (p.take (p.length-1))).set k (q++[p.getD (p.length-1) ByteArray.empty])) u∧Good M' w'∧vm M w M' w':=by
  obtain⟨hl,KQ⟩:=bH hW;have hi:i<y.length:=(qp.1 e2).1;have hk:k<y.length:=(qp.1 f2).1;obtain⟨m,hm⟩:∃m,p.length=m+1:=⟨p.length-1,by omega⟩
  have lw:m<999:=by have:=KQ p (qK e2);omega
  obtain⟨b,off,cap,rfl,wJ⟩:=tz hv (by omega);obtain⟨w1,v6⟩:∃w1,w.alloc (.cells #[.int .i64 (i:Int),.int .i64 (k:Int)] 63)=w1:=⟨_,rfl⟩
  have Qu:Below w.heap.size w w1:=by rw[←v6];exact(qN _ w).alloc (ql _) _
  have Yg:Good M w1:=Zu hg Qu;have wj:=qz w (.cells #[.int .i64 (i:Int),.int .i64 (k:Int)] 63);rw[v6]at wj;have k0:w1.cell? ⟨w.heap.size,0,none⟩=some (.int .i64 (i:Int)):=va wj rfl;have k1:w1.cell? ⟨w.heap.size,1,none⟩=some (.int .i64 (k:Int)):=va wj rfl;have Z4:w1.heap.size=w.heap.size+1:=by rw[←v6,qQ]
  obtain⟨r0,x1,x2⟩:=wJ i p e2;obtain⟨a0,c0,rfl⟩:=br x2;rw[hm]at x1;have k2:w1.cell? ⟨b,off+i,none⟩=some (.slice a0 (m+1) c0):=Yg.2 _ _ _ x1;obtain⟨r9,x3,x4⟩:=wJ k q f2;obtain⟨a9,c9,rfl⟩:=br x4;have k3:w1.cell? ⟨b,off+k,none⟩=some (.slice a9 q.length c9):=Yg.2 _ _ _ x3;have Gk:=ye9 (cap:=cap) Yg hl (fun j q hj=>by
    obtain⟨r,q1,q2⟩:=wJ j q hj;exact⟨r,Yg.2 _ _ _ q1,q2,by have:=KQ q (qK hj);omega⟩)
  obtain⟨i0,d0,Qh⟩:=Qx nT;obtain⟨z,hz,dL,_⟩:=Qh.zero (by rfl);have HD:=Qh.bytes;have Ko:z.cells.size=1:=by have:=Qp .str (fun _ _=>none) _ _ (dL _);exact(by simpa using this:z.cells.size=Ty.str.size)
  generalize dR:p.getD (p.length-1) ByteArray.empty=s;have fin:∀(w2:World) (v2:Value) (rvs:List Value),z18 w2 w1.heap.size v2 y rvs→Below w1.heap.size w1 w2→∃g YO b2 c2,v2 = .slice (some ⟨g,0,none⟩) y.length YO∧m+1≤c2∧
      w2.cell? ⟨w.heap.size,0,none⟩=some (.int .i64 (i:Int))∧w2.cell? ⟨w.heap.size,1,none⟩=some (.int .i64 (k:Int))∧
      w2.cell? ⟨g,i,none⟩=some (.slice (some ⟨b2,0,none⟩) (m+1) c2)∧w2.frozen? ⟨g,i,none⟩=false∧w2.cell? ⟨b2,m,none⟩=some (.string s)∧
      ∃w3,w2.setCell ⟨g,i,none⟩ (.slice (some ⟨b2,0,none⟩) m c2)=w3∧w3.heap.size=w2.heap.size∧w3.cell? ⟨w.heap.size,1,none⟩=some (.int .i64 (k:Int))∧
      ∃r3,w3.cell? ⟨g,k,none⟩=some r3∧
      ∃w4,(w3.alloc (.cells #[.string s] 9)).drew.drew=w4∧w4.cell? ⟨w.heap.size,1,none⟩=some (.int .i64 (k:Int))∧w4.cell? ⟨g,k,none⟩=some r3∧
      ∃p5 n5 c5 w5,(Builtin.append_ #[61,61] 61 #[r3,.slice (some ⟨w2.heap.size,0,none⟩) 1 1]).run Tryz.prog w4 = .ok (.slice p5 n5 c5) w5∧w5.cell? ⟨w.heap.size,1,none⟩=some (.int .i64 (k:Int))∧w5.cell? ⟨g,k,none⟩=some r3∧w5.frozen? ⟨g,k,none⟩=false∧
      ∃M' ,jz Tryz.prog YP M' ((y.set i (p.take (p.length-1))).set k (q++[s])) v2∧Good M' (w5.setCell ⟨g,k,none⟩ (.slice p5 n5 c5))∧vm M w M' (w5.setCell ⟨g,k,none⟩ (.slice p5 n5 c5)):=fun w2 v2 rvs hY hB=>by
    obtain⟨g,YO,b2,c2,rfl,y1,y2,y3,y4,y5,y6,y7,y8⟩:=hY.pile e2 hm;have hh:=(hB.block w.heap.size (by omega)).trans wj;have VV:=hY.cut hm y4 y5;have Qn:=iy (w:=w2) (w1:=w2) (g:=g) (cap:=YO) (n:=y.length) (r1 :=.slice (some ⟨b2,0,none⟩) m c2) y4 ⟨rfl,rfl,rfl,ql _,fun _ _ _=>rfl⟩;have BS:=hB.trans (uf hY hB.size Qn);obtain⟨w3,YT⟩:∃w3,w2.setCell ⟨g,i,none⟩ (.slice (some ⟨b2,0,none⟩) m c2)=w3:=⟨_,rfl⟩
    have oO:w3.heap.size=w2.heap.size:=by rw[←YT];simp[World.setCell]
    have e3:w3.cell? ⟨w.heap.size,1,none⟩=some (.int .i64 (k:Int)):=by
      rw[←YT];exact(za (by simp[World.setCell,zL,show g≠w.heap.size by omega])).trans (va hh rfl)
    rw[YT]at VV BS;obtain⟨w4,VK⟩:∃w4,(w3.alloc (.cells #[.string s] 9)).drew.drew=w4:=⟨_,rfl⟩
    have DT:Below w1.heap.size w1 w4:=by rw[←VK];have hA:=BS.alloc BS.size (.cells #[.string s] 9);exact⟨hA.os,hA.tape,hA.output,hA.size,hA.block⟩
    have h4:z18 w4 w1.heap.size (.slice (some ⟨g,0,none⟩) (y.set i (p.take (p.length-1))).length YO) (y.set i (p.take (p.length-1))) (rvs.set i (.slice (some ⟨b2,0,none⟩) m c2)):=by rw[←VK];exact(VV.kept (xN _ _ none)).drew.drew
    have Dv:(y.set i (p.take (p.length-1)))[k]?=some q:=by rw[kz Qa];exact f2
    obtain⟨r3,u1,u2,u3,u3'⟩:=h4.row Dv;obtain⟨r2,t1,t2,t3,t3'⟩:=VV.row Dv;obtain rfl:r3=r2:=by rw[u1]at t1;exact zQ t1
    have e4:w4.cell? ⟨w.heap.size,1,none⟩=some (.int .i64 (k:Int)):=va ((DT.block w.heap.size (by omega)).trans wj) rfl;have hz4:w4.heap.size=w2.heap.size+1:=by rw[←VK];show(w3.alloc _).heap.size=_;rw[qQ,oO]
    obtain⟨r5,w5,jF,o1,o2,o3,o4⟩:=je (P:=Tryz.prog) w4 w1.heap.size 61 61 9 i0 z 1 i0.bytes SC Qh.info hz Qh.size rfl Ko (by decide) r3 q.length (strCells q) u2 ⟨w3.heap.size,0,none⟩ 1 1 [.string s] rfl (by
      rw[←VK];exact cell_one_new w3 (.string s) 9) (by intro u hu;rw[qE.1 hu];rfl) (by unfold maxLen;omega) (by
      have:=xG (show q.length+1≤1001 by omega) HD;omega) DT.size
    rw[oO]at jF;obtain⟨p5,n5,c5,rfl⟩:=C0 o1;have VP:some g≠r3.ownBlock:=by
      rcases bK h4.outer u2 (by decide)with e|e
      · rw[e];simp
      · simp only[Value.ownBlock,ne_eq]at e⊢;exact fun h=>e h.symm
    have G8:some w.heap.size≠r3.ownBlock:=fun e=>by
      have:=(u2.lt _ e.symm).1;omega
    have VQ:g<w4.heap.size:=zc w4 _ u3;have ej:w.heap.size<w4.heap.size:=zc w4 _ e4;have dP:=h4.turn (r1 :=.slice p5 n5 c5) (y1:=q++[s]) u1 o2 (by
      rw[qe,qj];have:strCells (q++[s])=strCells q++[.string s]:=by unfold strCells;rw[zv];rfl
      rw[this];exact o1) o4
    have pg:=iy (w:=w4) (w1:=w5) (g:=g) (cap:=YO) (n:=(y.set i (p.take (p.length-1))).length) (r1 :=.slice p5 n5 c5) u1 o2;have DS:=DT.trans (uf h4 DT.size pg);have FY:Below w.heap.size w (w5.setCell ⟨g,k,none⟩ (.slice p5 n5 c5)):=Qu.trans ⟨DS.os,DS.tape,DS.output,DS.size,fun j hj=>DS.block j (qV hj Qu.size)⟩;refine⟨g,YO,b2,c2,rfl,y3,va hh rfl,va hh rfl,y6,y7,by rw[←dR];exact y8,w3,YT,oO,e3,r3,t3,w4,VK,e4,u3,p5,n5,c5,w5,jF,(za (o2.block _ ej G8)).trans e4,(za (o2.block _ VQ VP)).trans u3,(World.frozen?_of_block (o2.block _ VQ VP)).trans u3',J7 w.heap.size M _,?_,Rg (Zu hg FY),Rh FY⟩;have:=(dP.base Qu.size).rel (M:=M);rw[yx,yx]at this;exact this
  have dN:∀W:World,Calls Tryz.prog 20 #[.int .i64 (i:Int),.int .i64 0,.int .i64 ((y.length:Int)-1)] W fun e w'=>e = .returned (.bool true)∧w'=W:=fun W=>by
    have:=T5 (i:Int) 0 ((y.length:Int)-1) W;rwa [jJ (show(0:Int)≤(i:Int) by omega),jJ (show(i:Int)≤(y.length:Int)-1 by omega)]at this
  have oR:∀W:World,Calls Tryz.prog 20 #[.int .i64 (k:Int),.int .i64 0,.int .i64 ((y.length:Int)-1)] W fun e w'=>e = .returned (.bool true)∧w'=W:=fun W=>by
    have:=T5 (k:Int) 0 ((y.length:Int)-1) W;rwa [jJ (show(0:Int)≤(k:Int) by omega),jJ (show(k:Int)≤(y.length:Int)-1 by omega)]at this
  have Vf:Tryz.f43.results=#[.tmp 4,.tmp 5]:=by kernel_rfl
  have em:(m:Int)+1-1=(m:Int):=by omega
  clear hv wJ KQ e2 Qm x1 x2 f2 x3 x4;go_enter Tryz.func43,Tryz.ntmps43
  go_wp2_with (first
    |(go_at_call_of 20 (Value.int IntKind.i64 (i:Int));refine(dN _).mono ?_;rintro e w2 ⟨rfl,rfl⟩)
    |(go_at_call_of 20 (Value.int IntKind.i64 (k:Int));refine(oR _).mono ?_;rintro e w2 ⟨rfl,rfl⟩)
    |(go_at_call 38;refine Gk.mono ?_;clear Gk;rintro e w2 ⟨v2,rvs,rfl,hY,hB⟩;obtain⟨g,YO,b2,c2,rfl,BC,d0,d1,d2,d3,d4,w3,YT,oO,d5,r3,d6,w4,VK,d7,d8,p5,n5,c5,w5,jF,d9,d10,d11,M',z1,z2,z3⟩:=fin w2 v2 rvs hY hB;clear fin hY))
  go_region
  all_goals
    go_wp2
    go_region_law (refine ut rfl (.tmp 92) (.tmp 94) 61 rfl r3 (.slice (some ⟨w2.heap.size,0,none⟩) 1 1) (.slice p5 n5 c5) (by simp[Act.eval,Act.put]) (by simp[Act.eval,Act.put]) jF ?_)
    all_goals
      go_wp2
      refine zu (v :=.tuple #[.slice (some ⟨g,0,none⟩) y.length YO,.int .i64 0]) ?_ rfl ⟨M',_,rfl,z1,z2,z3⟩;simp only[Go.results,Vf,qy,xa,xm,xE,qD,qt,xX];rfl
end Go.Lift
namespace Go.Lift
open Go Go.Proofs Go.RowKit
set_option maxRecDepth 100000
noncomputable def tR(y:(List (List js)))(m:Z0):Option ((List (List js))×Int):=
 (As m.1 0 (jv ((y.length:Int)-1))).bind fun(t:Bool)=>
 (bif !t then some true else
  (bif (m.2 !=(-1))then
   (As m.2 0 (jv ((y.length:Int)-1))).bind fun(jQ:Bool)=>
   some (!jQ)
  else some false).bind fun(c:Bool)=>
  some c).bind fun(ZV:Bool)=>
 bif ZV then
  some ([],6)
 else
  chk (decide ((0:Int)≤m.1)&&decide (m.1<(y.length:Int))) (
   bif ((List.length (jt [] y m.1):Int)==0)then
    some ([],11)
   else
    bif (m.1==m.2)then
     some ([],3)
    else
     (bif (m.2 !=(-1))then
      chk (decide ((0:Int)≤m.2)&&decide (m.2<(y.length:Int))) (
       some (decide ((List.length (jt [] y m.2):Int)≥6)))
     else some false).bind fun(Xu:Bool)=>
     bif Xu then
      some ([],16)
     else
      (AE y).bind fun(vb:(List (List js)))=>
      chk (decide ((0:Int)≤m.1)&&decide (m.1<(vb.length:Int))) (
       let top:Int:=jv ((List.length (jt [] vb m.1):Int)-1)
       chk (decide ((0:Int)≤m.1)&&decide (m.1<(vb.length:Int))) (
        chk (decide ((0:Int)≤top)&&decide (top<(List.length (jt [] vb m.1):Int))) (
         let slab:js:=jt ByteArray.empty (jt [] vb m.1) top
         chk (decide ((0:Int)≤m.1)&&decide (m.1<(vb.length:Int))) (
          chk (decide ((0:Int)≤0)&&decide ((0:Int)≤top)&&decide (top≤(List.length (jt [] vb m.1):Int))) (
           chk (decide ((0:Int)≤m.1)&&decide (m.1<(vb.length:Int))) (
            none)))))))
noncomputable abbrev zww:Sig:=⟨43,[(.slice (.slice .str)),wP],[(.slice (.slice .str)),(.int .i64)],fun x=>tR x.1 x.2⟩
theorem zy9(y:(List (List js)))(m:Z0):jU (cx [] [zqb,up]) Tryz.f43 .nil [(.slice (.slice .str)),wP] [(.slice (.slice .str)),(.int .i64)] (y,m)=tR y m:=by kernel_rfl
theorem y0e:Has Tryz.prog zww:=
 we vi vU vT vS (own:=[]) (all_cons y2w (all_cons Rm all_nil)) (n :=.nil) Tryz.func43 (by kernel_rfl) fun x=>zy9 x.1 x.2
theorem ybw{y:List (List js)}(hy:y.length≤1000){m:Int×Int}(h:Qb y m≠0):tR y m=some ([],Qb y m):=by
 unfold tR;unfold Qb G1 at h⊢;rw[Qj (x:=(y.length:Int)-1) (by omega) (by omega),gX,qh,gX];by_cases h1:0≤m.1∧m.1≤(y.length:Int)-1
 ·rw [jJ h1]at h⊢;have Yt:(decide ((0:Int)≤m.1)&&decide (m.1<(y.length:Int)))=true:=wX (jJ h1.1) (jJ (by omega));have key:∀b:Bool,(b=false→0≤m.2∧m.2≤(y.length:Int)-1∨m.2 = -1)→(bif (b&&m.2 != -1)then(6:Int)else bif ((jt [] y m.1).length:Int)==0 then 11 else bif m.1==m.2 then 3 else bif m.2 != -1&&decide (((jt [] y m.2).length:Int)≥6)then 16 else 0)≠0→True:=fun _ _ _=>trivial
  by_cases h2:0≤m.2∧m.2≤(y.length:Int)-1
  ·have hm:(m.2 != -1)=true:=by rw[zP];omega
   have Vj:(decide ((0:Int)≤m.2)&&decide (m.2<(y.length:Int)))=true:=wX (jJ h2.1) (jJ (by omega));rw[jJ h2,hm]at h⊢;simp only[qv,qh,zi,xj,qu,zS,zJ,Yt,Vj,WU]at h⊢;cases h3:((jt [] y m.1).length:Int)==0 with
   |true=>rfl
   |false=>
    cases h4:m.1==m.2 with
    |true=>rfl
    |false=>
     rw[h3,h4]at h;cases h5:decide (((jt [] y m.2).length:Int)≥6)with
     |true=>rfl
     |false=>rw[h5]at h;exact absurd rfl h
  ·rw[vG h2]at h⊢;cases hm:m.2 != -1 with
   |true=>rfl
   |false=>
    rw[hm]at h;simp only[qv,qh,zi,xj,qu,zS,zJ,yn,Yt,WU]at h⊢;cases h3:((jt [] y m.1).length:Int)==0 with
    |true=>rfl
    |false=>
     cases h4:m.1==m.2 with
     |true=>rfl
     |false=>rw[h3,h4]at h;exact absurd rfl h
 ·rw[vG h1]at h⊢;rfl
theorem y1u{y:List (List js)}(hW:Vo y=true)(m:Int×Int):WI y m=bif Qb y m !=0 then some ([],Qb y m)else(V7 y m).bind fun n=>some (n,0):=by
 have hy:=(bH hW).1;unfold WI Qb G1;rw[hW,qv,Qj (x:=(y.length:Int)-1) (by omega) (by omega),gX,qh,gX];by_cases h1:0≤m.1∧m.1≤(y.length:Int)-1
 ·rw [jJ h1];by_cases h2:0≤m.2∧m.2≤(y.length:Int)-1
  ·have hm:(m.2 != -1)=true:=by rw[zP];omega
   rw[jJ h2,hm];simp only[qv,qh,zi,xj,qu,zS,zJ];cases((jt [] y m.1).length:Int)==0 with
   |true=>rfl
   |false=>
    cases m.1==m.2 with
    |true=>rfl
    |false=>
     cases decide (((jt [] y m.2).length:Int)≥6)with
     |true=>rfl
     |false=>rfl
  ·rw[vG h2];cases hm:m.2 != -1 with
   |true=>rfl
   |false=>
    simp only[qv,qh,zi,xj,qu,zS,zJ,yn];cases((jt [] y m.1).length:Int)==0 with
    |true=>rfl
    |false=>
     cases m.1==m.2 with
     |true=>rfl
     |false=>rfl
 ·rw[vG h1];by_cases h2:0≤m.2∧m.2≤(y.length:Int)-1
  ·rw[jJ h2];cases m.2 != -1<;>rfl
  ·rw[vG h2];cases m.2 != -1<;>rfl
theorem Ek:Has Tryz.prog mZ:=by
 refine⟨enters_of (by kernel_rfl),fun x r hr M w vs hg Q3 =>?_⟩;have NE:=Q3;obtain⟨v,rest,rfl,hv,u,rfl,hu⟩:=Q3;have Cs:=Lo hu;subst Cs;obtain⟨y,m⟩:=x;have Xo:WI y m=some r:=hr;cases hW:Vo y with
 |false=>unfold WI at Xo;rw[hW]at Xo;cases Xo
 |true=>
  have hy:=(bH hW).1;rw[y1u hW]at Xo;by_cases h0:Qb y m=0
  ·rw[h0,show((0:Int)!=0)=false from rfl,qu]at Xo;obtain⟨n,hn,Wj⟩:=qi.1 Xo;simp only[qb]at Wj;subst Wj;obtain⟨i,p,e1,e2,Qm,Bx⟩:=y6k h0;have out:Calls Tryz.prog 43 #[v,.agg #[.int .i64 m.1,.int .i64 m.2]] w (fun r w'=>∃M' u,r = .returned (.tuple #[u,.int .i64 0])∧jz Tryz.prog YP M' n u∧Good M' w'∧vm M w M' w')→CK Tryz.prog 43 #[v,.agg #[.int .i64 m.1,.int .i64 m.2]] M w fun M' u=>VC Tryz.prog M' [YP,.int .i64] (n,0) u:=fun h2=>by
    refine h2.mono fun q w' =>?_
    rintro⟨M',u,rfl,h3,h4,h5⟩;exact⟨M',_,rfl,⟨_,rfl,u,[_],rfl,h3,_,rfl,YX.2 rfl⟩,h4,h5⟩
   refine out ?_;obtain⟨m1,m2⟩:=m;simp only at e1 Bx hn⊢;subst e1;rcases Bx with rfl|⟨k,q,rfl,f2,f6,f3⟩
   ·rw[L6 e2,qb]at hn;subst hn;exact y2c hg hv hW e2 Qm
   ·rw[Lf e2 f2 f3 (by omega),qb]at hn;subst hn;exact y6j hg hv hW e2 Qm f2 f6 f3
  ·rw[show(Qb y m !=0)=true by rw[zP];exact h0,qv,qb]at Xo;subst Xo;exact y0e.2 (y,m) _ (ybw hy h0) M w _ hg NE
end Go.Lift
