/-
  The copy of a yard, in memory of its own (walks).
-/
import Derived.Test.YtggnjngdmadbaaaGreatDoorYaF
import Derived.Test.YtggnjngdmadbaaaGreatDoorManA
import Derived.Handy
import Derived.Test.YtggnjngdmadbaaaGreatDoorLiftP
import Derived.Maps.AppendAt
set_option maxRecDepth 100000
set_option maxHeartbeats 2000000
set_option linter.all false
abbrev je:=@Go.run_append_own_at
namespace Go.Lift
open Go Go.Proofs Go.RowKit Go.Shelf Go.Lib
attribute [local go_sem] Oper.semAt_some
theorem SC:Tryz.prog.underlying 61=some (.slice 9):=by kernel_rfl
theorem y0p(i0:TypeInfo)(z:Value)(bytes:Nat)(hi:Tryz.prog.info? 9=some i0)(Nx:i0.zero=some z)(Z4:i0.size=1)(G3:i0.bytes=bytes)(Ko:z.cells.size=1)
  (a:Addr) (n c:Nat) (news:List Value) (w:World) (hl:news.length=n*1) (hn:n≤maxLen) (eO:n*bytes≤140737488355328)
  (hc:∀j u,news[j]?=some u→w.cell? (a.add j)=some u) (h1:∀u∈news,u.oneCell'=true):
  Calls Tryz.prog 41 #[.slice (some a) n c] w fun e w'=>∃v',e = .returned v'∧w'.ownsRow w.heap.size 9 1 v' n news∧Below w.heap.size w w':=by
 have A:Aside (∀j u,news[j]?=some u→w.cell? (a.add j)=some u):=hc;clear hc;have Ni:=SC;go_enter Tryz.func41,Tryz.ntmps41
 go_wp2_with (at_builtin;refine jc _ rfl _ _ 61 rfl w.heap.size 9 i0 z 1 bytes Ni hi Nx Z4 G3 Ko (by decide) _ _ _ rfl (World.ownsRow_made w #[] 0 (ql _) (zz _) (by simp)) a n c news rfl ?qc1 ?qc2 ?qc3 ?qc4 ?qc5 ?qc6 ?_)
 case qc1=>exact hl
 case qc2=>
  intro j u hj;exact Lib.cell?_alloc_some _ (A.out j u hj)
 case qc3=>exact h1
 case qc4=>rw[qY];exact hn
 case qc5=>rw[qY];exact eO
 case qc6=>simp
 intro v' w1 wx JF JB;go_wp2
 go_ret
 refine⟨v',rfl,by simpa using wx,?_⟩;exact((qN _ w).alloc (ql _) _).grown JF (by simp) (by intro k hk;simp[Value.ownBlock]at hk;omega)
abbrev Zc:Ty :=.slice .str
theorem nT:fits Tryz.prog .str (.inl 9)=true:=by kernel_rfl
theorem zy3(w:World):Calls Tryz.prog 41 #[.slice none 0 0] w fun e w'=>∃v',e = .returned v'∧w'.ownsRow w.heap.size 9 1 v' 0 []∧Below w.heap.size w w':=by
 have Ni:=SC;obtain⟨i0,d0,Qh⟩:=Qx nT;have hi:=Qh.info;have jF:∀W:World,(Builtin.append_ #[61,61] 61 #[.slice (some ⟨w.heap.size,0,none⟩) 0 0,.slice none 0 0]).run Tryz.prog W = .ok (.slice (some ⟨w.heap.size,0,none⟩) 0 0) W:=fun W=>by
  simp[Builtin.append_,qG Ni,sizeOf,typeInfo,hi,Builtin.lenOf,Builtin.firstCells,storeCells]
 go_enter Tryz.func41,Tryz.ntmps41
 go_wp2
 go_ret
 refine⟨_,rfl,?_,(qN _ w).alloc (ql _) _⟩;exact⟨rfl,.inr ⟨w.heap.size,0,#[],rfl,ql _,qz w _,ql _,zz _,rfl,rfl⟩⟩
def strCells(y:List js):List Value:=y.map .string
theorem Lu{M:Mem}{y:List js}{v:Value}{w:World}(hg:Good M w)(h:jz Tryz.prog Zc M y v):(v = .slice none 0 0∧y=[])∨∃a c,v = .slice (some a) y.length c∧∀j u,(strCells y)[j]?=some u→w.cell? (a.add j)=some u:=by
 obtain⟨v',h1,h2⟩:jB Tryz.prog Zc M y [v]:=h;simp only[qM,zA]at h1;subst h1;rcases h2 with⟨rfl,rfl⟩|⟨b,off,cap,cells,rfl,ZS,jH,hm,Xb⟩|⟨a,c,rfl,rfl⟩
 ·exact .inl ⟨rfl,rfl⟩
 ·refine .inr ⟨⟨b,off,none⟩,cap,rfl,fun j u hj =>?_⟩;unfold strCells at hj;rw[yG]at hj;obtain⟨s,hs,rfl⟩:=qB.1 hj;obtain⟨hlt,hs⟩:=qp.1 hs;have h3:(cells.drop (j*1)).take 1=[.string y[j]]:=Xb j hlt;have h4:=congrArg (fun l:List Value=>l[0]?) h3;simp only[xe,zb,zd]at h4;have h5:cells[j]?=some (.string s):=by rw[←hs];simpa using h4
  rw[Addr.add_mk];exact hg.2 b (off+j) _ (hm j _ h5)
 ·exact .inr ⟨a,c,rfl,fun j u hj=>by cases hj⟩
theorem ztp{M:Mem}{w:World}(hg:Good M w){y:List js}{v:Value}(h:jz Tryz.prog Zc M y v)(hl:y.length≤1000):
  Calls Tryz.prog 41 #[v] w fun e w'=>∃v',e = .returned v'∧w'.ownsRow w.heap.size 9 1 v' y.length (strCells y)∧Below w.heap.size w w':=by
 rcases Lu hg h with⟨rfl,rfl⟩|⟨a,c,rfl,hc⟩
 ·exact zy3 w
 ·obtain⟨i0,d0,Qh⟩:=Qx nT;obtain⟨z,hz,Z4,_⟩:=Qh.zero (by rfl);have HD:=Qh.bytes;refine y0p i0 z i0.bytes Qh.info hz Qh.size rfl (by have:=Qp .str M _ _ (Z4 M);exact(by simpa using this:z.cells.size=Ty.str.size)) a y.length c (strCells y) w (by unfold strCells;simp) (by unfold maxLen;omega) ?_ hc (fun u hu=>by
   unfold strCells at hu;obtain⟨s,_,rfl⟩:=zG.1 hu;rfl)
  have:y.length*i0.bytes≤1000*i0.bytes:=q9 _ hl;omega
theorem y38{M:Mem}{w:World}(hg:Good M w){y:List js}{v:Value}(h:jz Tryz.prog Zc M y v)(hl:y.length≤1000):
  Calls Tryz.prog 187 #[v] w fun e w'=>∃v',e = .returned v'∧w'.ownsRow w.heap.size 9 1 v' y.length (strCells y)∧Below w.heap.size w w':=by
 rcases Lu hg h with⟨rfl,rfl⟩|⟨a,c,rfl,hc⟩
 ·refine yT (Tryz.slices_Clone_nil_f187 0 0 w) fun e w' he =>?_
  obtain⟨rfl,rfl⟩:=he;exact⟨_,rfl,⟨rfl,.inl ⟨rfl,rfl⟩⟩,qN _ _⟩
 ·obtain⟨i0,d0,Qh⟩:=Qx nT;obtain⟨z,hz,Z4,_⟩:=Qh.zero (by rfl);have HD:=Qh.bytes;refine Go.Proofs.clone_at Tryz.laysSlE041_f187 i0 z 1 i0.bytes Qh.info hz Qh.size rfl (by have:=Qp .str M _ _ (Z4 M);exact(by simpa using this:z.cells.size=Ty.str.size)) (by decide) (fun w=>Kj Qh w) a y.length c (strCells y) w (by unfold strCells;simp) (by unfold maxLen;omega) ?_ hc (fun u hu=>by
   unfold strCells at hu;obtain⟨s,_,rfl⟩:=zG.1 hu;rfl)
  have:y.length*i0.bytes≤1000*i0.bytes:=q9 _ hl;omega
end Go.Lift
namespace Go.Lift
open Go Go.Proofs Go.RowKit
structure z18 (w:World) (base:Nat) (v:Value) (ys:List (List js)) (rvs:List Value):Prop where
 outer:w.ownsRow base 61 1 v ys.length rvs
 rows:∀(j:Nat) (y:List js),ys[j]?=some y→∃r,rvs[j]?=some r∧w.ownsRow base 9 1 r y.length (strCells y)
 apart:∀(i j:Nat) (r s:Value),i≠j→rvs[i]?=some r→rvs[j]?=some s→r.ownBlock=none∨r.ownBlock≠s.ownBlock
theorem bK{w:World}{base V1:Nat}{v r:Value}{n m s s':Nat}{xs cs:List Value}{e e':TypeId}(h:w.ownsRow base e s v n xs)(k:w.ownsRow V1 e' s' r m cs)(he:e'≠e):r.ownBlock=none∨r.ownBlock≠v.ownBlock:=by
 rcases k.2 with⟨rfl,_⟩|⟨b,cap,jT,rfl,_,hb,_⟩
 ·exact .inl rfl
 ·rcases h.2 with⟨rfl,_⟩|⟨g,V0,Xt,rfl,_,hg,_⟩
  ·exact .inr (by simp[Value.ownBlock])
  ·refine .inr fun e2 =>?_
   simp only[Value.ownBlock,qb]at e2;subst e2;rw[hb]at hg;simp only[qb,xV]at hg;exact he hg.2.1
theorem vA{w w':World}(h:Below w.heap.size w w'):w.grownBy w' none:=⟨h.os,h.tape,h.output,h.size,fun k hk _=>h.block k hk⟩
theorem z18.kept{w w':World}{base:Nat}{v:Value}{ys:List (List js)}{rvs:List Value}(h:z18 w base v ys rvs)(hg:w.grownBy w' none):z18 w' base v ys rvs:=by
 have ju:∀x:Value,x.ownBlock=none∨x.ownBlock≠none:=fun x=>by cases x.ownBlock<;>simp
 refine⟨h.outer.kept hg (ju v),fun j y hy =>?_,h.apart⟩;obtain⟨r,h1,h2⟩:=h.rows j y hy;exact⟨r,h1,h2.kept hg (ju r)⟩
theorem z18.nil(w:World)(base:Nat):z18 w base (.slice none 0 0) [] []:=
 ⟨World.ownsRow_nil w base 61 1,fun j y hy=>(by cases hy),fun i j r s _ hr _=>by cases hr⟩
theorem z18.snoc{w w':World}{base:Nat}{v v':Value}{ys:List (List js)}{rvs:List Value}{y:List js}{r:Value}{K:Nat}(h:z18 w base v ys rvs)(hr:w.ownsRow base 9 1 r y.length (strCells y))(hK:∀k,r.ownBlock=some k→K≤k)(hlt:∀s∈rvs,∀k,s.ownBlock=some k→k<K)
  (ho:w'.ownsRow base 61 1 v' (ys.length+1) (rvs++[r])) (hg:w.grownBy w' v.ownBlock):z18 w' base v' (ys++[y]) (rvs++[r]):=by
 have hl:rvs.length=ys.length:=by have:=h.outer.1;omega
 have keep:∀(s:Value) (m:Nat) (cs:List Value),w.ownsRow base 9 1 s m cs→w'.ownsRow base 9 1 s m cs:=fun s m cs hs=>hs.kept hg (bK h.outer hs (by decide))
 refine⟨by rw[qe,qj];exact ho,fun j z hz =>?_,fun i j a b X3 ha hb =>?_⟩
 ·by_cases hj:j<ys.length
  ·rw[zf hj]at hz;obtain⟨s,h1,h2⟩:=h.rows j z hz;exact⟨s,by rw[zf (by omega)];exact h1,keep _ _ _ h2⟩
  ·have et:j=ys.length:=by
    have:=(qp.1 hz).1;rw[qe,qj]at this;omega
   subst et;rw[zm (ql _),yV,zr,qb]at hz;subst hz;exact⟨r,by rw[←hl,zm (ql _),yV];rfl,keep _ _ _ hr⟩
 ·have FI:∀(s:Value),s∈rvs→(s.ownBlock=none∨s.ownBlock≠r.ownBlock)∧(r.ownBlock=none∨r.ownBlock≠s.ownBlock):=fun s hs=>by
   cases h1:s.ownBlock with
   |none=>exact⟨.inl rfl,by cases r.ownBlock<;>simp⟩
   |some k=>
    have h2:=hlt s hs k h1;cases h3:r.ownBlock with
    |none=>simp
    |some q=>
     have h4:=hK q h3;exact⟨.inr (by simp;omega),.inr (by simp;omega)⟩
  have H1:∀(i:Nat) (a:Value),(rvs++[r])[i]?=some a→(i<rvs.length∧rvs[i]?=some a)∨(i=rvs.length∧a=r):=fun i a h1=>by
   by_cases hi:i<rvs.length
   ·rw[zf hi]at h1;exact .inl ⟨hi,h1⟩
   ·have:=(qp.1 h1).1;rw[qe,qj]at this;have Fi:i=rvs.length:=by omega
    subst Fi;rw[zm (ql _),yV,zr,qb]at h1;exact .inr ⟨rfl,h1.symm⟩
  rcases H1 i a ha with⟨h1,h2⟩|⟨h1,rfl⟩
  ·rcases H1 j b hb with⟨h3,h4⟩|⟨h3,rfl⟩
   ·exact h.apart i j a b X3 h2 h4
   ·exact(FI a (qK h2)).1
  ·rcases H1 j b hb with⟨h3,h4⟩|⟨h3,_⟩
   ·exact(FI b (qK h4)).2
   ·omega
attribute [local go_sem] Oper.semAt_some
def PA(n:Nat)(v:Value):Nat:=match v with |.int _ k=>n-k.toNat|_=>0
theorem C0{w:World}{base:Nat}{e:TypeId}{s n:Nat}{v:Value}{xs:List Value}(h:w.ownsRow base e s v n xs):∃p m c,v = .slice p m c:=by
 rcases h.2 with⟨rfl,_⟩|⟨g,cap,jT,rfl,_⟩
 ·exact⟨_,_,_,rfl⟩
 ·exact⟨_,_,_,rfl⟩
theorem gQ{w:World}{base V1:Nat}{e:TypeId}{s n:Nat}{v:Value}{xs:List Value}(h:w.ownsRow base e s v n xs)(hb:V1≤base):w.ownsRow V1 e s v n xs:=by
 refine⟨h.1,?_⟩;rcases h.2 with h1|⟨g,cap,jT,h1,h2,h3⟩
 ·exact .inl h1
 ·exact .inr ⟨g,cap,jT,h1,ze hb h2,h3⟩
theorem z18.lt{w:World}{base:Nat}{v:Value}{ys:List (List js)}{rvs:List Value}(h:z18 w base v ys rvs):∀s∈rvs,∀k,s.ownBlock=some k→k<w.heap.size:=fun s hs k hk=>by
 obtain⟨j,hj,rfl⟩:=xh.1 hs;have hl:rvs.length=ys.length:=by have:=h.outer.1;omega
 obtain⟨r,h1,h2⟩:=h.rows j ys[j] (qr (by omega));rw[qr hj,qb]at h1;rw[←h1]at h2;exact(h2.lt k hk).2
theorem Nc:Tryz.prog.underlying 147=some (.slice 61):=by kernel_rfl
theorem ye5:fits Tryz.prog Zc (.inl 61)=true:=by kernel_rfl
theorem yd0{M:Mem}{w:World}(hg:Good M w){ys:List (List js)}{b off cap:Nat}(hl:ys.length≤1000)(hc:∀j y,ys[j]?=some y→∃r,w.cell? ⟨b,off+j,none⟩=some r∧jz Tryz.prog Zc M y r∧y.length≤1000):
  Calls Tryz.prog 148 #[.slice (some ⟨b,off,none⟩) ys.length cap] w fun e w'=>∃v rvs,e = .returned v∧z18 w' w.heap.size v ys rvs∧Below w.heap.size w w':=by
 have Nj:=Nc;obtain⟨i0,d0,Qh⟩:=Qx ye5;obtain⟨z,hz,Z4,_⟩:=Qh.zero (by rfl);have HD:=Qh.bytes;have Ko:z.cells.size=1:=by have:=Qp Zc M _ _ (Z4 M);exact(by simpa using this:z.cells.size=Zc.size)
 go_enter Tryz.func148,Tryz.ntmps148
 go_wp2
 go_loopw [3,8] (fun v3 v8 wr=>∃(i:Nat) (rvs:List Value),i≤ys.length∧v8=Value.int .i64 (i:Int)∧z18 wr w.heap.size v3 (ys.take i) rvs∧Below w.heap.size w wr) (fun v3 v8 wr=>PA ys.length v8)
 case atStart=>exact⟨0,[],zz _,rfl,z18.nil w _,qN _ _⟩
 case round=>
  obtain⟨i,rvs,hi,rfl,hY,hB⟩:=hrel;by_cases hlt:i<ys.length
  ·obtain⟨r,FP,Wj,o9⟩:=hc i ys[i] (qr hlt);have Qr:wr.cell? ⟨b,off+i,none⟩=some r:=(za (hB.block b (zc w _ FP))).trans FP;have ZR:=y38 (Zu hg hB) Wj o9;have A2:(ys.take i).length=i:=by rw[zE];omega
   go_wp2_with (first|(go_at_call 187;refine ZR.mono ?_;clear ZR;rintro e w1 ⟨v1,rfl,Wm,Qu⟩;obtain⟨sp,sn,sc,rfl⟩:=C0 Wm;have eU:=(hY.kept (vA Qu)).kept (xN w1 (.cells #[.slice sp sn sc] 61) none))|(at_builtin;refine jc _ rfl _ _ 147 rfl w.heap.size 61 i0 z 1 i0.bytes Nj Qh.info hz Qh.size rfl Ko (by decide) _ _ _ rfl eU.outer ⟨w1.heap.size,0,none⟩ 1 1 [.slice sp sn sc] rfl ?qc1 ?qc2 ?qc3 ?qc4 ?qc5 ?qc6 ?_))
   case qc1=>rfl
   case qc2=>
    intro j u hj;rw[Addr.add_mk,qY];exact(GN (qz w1 _)).trans (by simpa using hj)
   case qc3=>intro u hu;rw[qE.1 hu];rfl
   case qc4=>rw[A2];unfold maxLen;omega
   case qc5=>
    have:=xG (show(ys.take i).length+1≤1001 by omega) HD;omega
   case qc6=>rw[qQ];have:=hB.size;have:=Qu.size;omega
   intro v' w2 Ze j7 JB;go_wp2
   have vQ:=hB.size;have Xn:=Qu.size;have eL:Below w.heap.size w w1:=hB.trans ⟨Qu.os,Qu.tape,Qu.output,Qu.size,fun k hk=>Qu.block k (by omega)⟩;have Xs:Below w.heap.size w (w1.alloc (.cells #[.slice sp sn sc] 61)):=eL.alloc (by omega) _;refine⟨⟨i+1,rvs++[.slice sp sn sc],by omega,rfl,?_,?_⟩,?_⟩
   ·have hs:=z18.snoc (K:=wr.heap.size) eU (gQ (Wm.alloc _) (by omega)) (fun k hk=>(Wm.lt k hk).1) hY.lt (by rw[A2];exact Ze) j7;rw[List.take_add_one,qr hlt];exact hs
   ·exact⟨j7.os.trans Xs.os,j7.tape.trans Xs.tape,j7.output.trans Xs.output,ze Xs.size j7.size,fun k hk=>(j7.block k (qV hk Xs.size) (fun e=>by have:=(eU.outer.lt k e.symm).1;omega)).trans (Xs.block k hk)⟩
   ·show ys.length-(((i:Int)+1)).toNat<ys.length-((i:Int)).toNat
    omega
  ·go_wp2
   go_ret
   obtain rfl:i=ys.length:=by omega
   rw[jl]at hY;exact⟨u3,rvs,rfl,hY,hB⟩
end Go.Lift
namespace Go.Lift
open Go Go.Proofs Go.RowKit
attribute [local go_sem] Oper.semAt_some
theorem u60:Tryz.prog.underlying 60=some (.slice 61):=by kernel_rfl
theorem ye9{M:Mem}{w:World}(hg:Good M w){ys:List (List js)}{b off cap:Nat}(hl:ys.length≤1000)(hc:∀j y,ys[j]?=some y→∃r,w.cell? ⟨b,off+j,none⟩=some r∧jz Tryz.prog Zc M y r∧y.length≤1000):
  Calls Tryz.prog 38 #[.slice (some ⟨b,off,none⟩) ys.length cap] w fun e w'=>∃v rvs,e = .returned v∧z18 w' w.heap.size v ys rvs∧Below w.heap.size w w':=by
 have t60:=u60;obtain⟨i0,d0,Qh⟩:=Qx ye5;obtain⟨z,hz,Z4,_⟩:=Qh.zero (by rfl);have HD:=Qh.bytes;have Ko:z.cells.size=1:=by have:=Qp Zc M _ _ (Z4 M);exact(by simpa using this:z.cells.size=Zc.size)
 go_enter Tryz.func38,Tryz.ntmps38
 go_wp2
 go_loopw [3,4] (fun v3 v8 wr=>∃(i:Nat) (rvs:List Value),i≤ys.length∧v8=Value.int .i64 (i:Int)∧z18 wr w.heap.size v3 (ys.take i) rvs∧Below w.heap.size w wr) (fun v3 v8 wr=>PA ys.length v8)
 case atStart=>exact⟨0,[],zz _,rfl,z18.nil w _,qN _ _⟩
 case round=>
  obtain⟨i,rvs,hi,rfl,hY,hB⟩:=hrel;by_cases hlt:i<ys.length
  ·obtain⟨r,FP,Wj,o9⟩:=hc i ys[i] (qr hlt);have Qr:wr.cell? ⟨b,off+i,none⟩=some r:=(za (hB.block b (zc w _ FP))).trans FP;have ZR:=ztp (Zu hg hB) Wj o9;have A2:(ys.take i).length=i:=by rw[zE];omega
   go_wp2_with (first|(go_at_call 41;refine ZR.mono ?_;clear ZR;rintro e w1 ⟨v1,rfl,Wm,Qu⟩;obtain⟨sp,sn,sc,rfl⟩:=C0 Wm;have eU:=(hY.kept (vA Qu)).kept (xN w1 (.cells #[.slice sp sn sc] 61) none))|(at_builtin;refine jc _ rfl _ _ 60 rfl w.heap.size 61 i0 z 1 i0.bytes t60 Qh.info hz Qh.size rfl Ko (by decide) _ _ _ rfl eU.outer ⟨w1.heap.size,0,none⟩ 1 1 [.slice sp sn sc] rfl ?qc1 ?qc2 ?qc3 ?qc4 ?qc5 ?qc6 ?_))
   case qc1=>rfl
   case qc2=>
    intro j u hj;rw[Addr.add_mk,qY];exact(GN (qz w1 _)).trans (by simpa using hj)
   case qc3=>intro u hu;rw[qE.1 hu];rfl
   case qc4=>rw[A2];unfold maxLen;omega
   case qc5=>
    have:=xG (show(ys.take i).length+1≤1001 by omega) HD;omega
   case qc6=>rw[qQ];have:=hB.size;have:=Qu.size;omega
   intro v' w2 Ze j7 JB;go_wp2
   have vQ:=hB.size;have Xn:=Qu.size;have eL:Below w.heap.size w w1:=hB.trans ⟨Qu.os,Qu.tape,Qu.output,Qu.size,fun k hk=>Qu.block k (by omega)⟩;have Xs:Below w.heap.size w (w1.alloc (.cells #[.slice sp sn sc] 61)):=eL.alloc (by omega) _;refine⟨⟨i+1,rvs++[.slice sp sn sc],by omega,rfl,?_,?_⟩,?_⟩
   ·have hs:=z18.snoc (K:=wr.heap.size) eU (gQ (Wm.alloc _) (by omega)) (fun k hk=>(Wm.lt k hk).1) hY.lt (by rw[A2];exact Ze) j7;rw[List.take_add_one,qr hlt];exact hs
   ·exact⟨j7.os.trans Xs.os,j7.tape.trans Xs.tape,j7.output.trans Xs.output,ze Xs.size j7.size,fun k hk=>(j7.block k (qV hk Xs.size) (fun e=>by have:=(eU.outer.lt k e.symm).1;omega)).trans (Xs.block k hk)⟩
   ·show ys.length-(((i:Int)+1)).toNat<ys.length-((i:Int)).toNat
    omega
  ·go_wp2
   go_ret
   obtain rfl:i=ys.length:=by omega
   rw[jl]at hY;exact⟨u3,rvs,rfl,hY,hB⟩
end Go.Lift
namespace Go.Lift
open Go Go.Proofs Go.RowKit
attribute [local go_sem] Oper.semAt_some
theorem z18.base{w:World}{base V1:Nat}{v:Value}{ys:List (List js)}{rvs:List Value}(h:z18 w base v ys rvs)(hb:V1≤base):z18 w V1 v ys rvs:=
 ⟨gQ h.outer hb,fun j y hy=>(h.rows j y hy).imp fun r hr=>⟨hr.1,gQ hr.2 hb⟩,h.apart⟩
abbrev YP:Ty :=.slice (.slice .str)
end Go.Lift
namespace Go.Lift
open Go Go.Proofs Go.RowKit
def J7(B:Nat)(M:Mem)(w:World):Mem:=fun b o=>if B≤b then w.cell? ⟨b,o,none⟩else M b o
theorem L0{M:Mem}{w:World}{B:Nat}(hg:Good M w):Mem.le M (J7 B M w):=fun b o u hu=>by
 unfold J7;split
 ·exact hg.2 b o u hu
 ·exact hu
theorem Rg{M:Mem}{w:World}{B:Nat}(hg:Good M w):Good (J7 B M w) w:=by
 refine⟨wB.keep (L0 hg) (zb7.refl _) hg.1,fun b o u hu =>?_⟩;unfold J7 at hu;split at hu
 ·exact hu
 ·exact hg.2 b o u hu
theorem zxd{M:Mem}{w:World}{B b:Nat}(h:b<B):J7 B M w b=M b:=by
 funext o
 unfold J7;rw[qT (by omega)]
theorem Rh{M:Mem}{w w':World}(hb:Below w.heap.size w w'):vm M w (J7 w.heap.size M w') w':=⟨hb,fun b hlt=>zxd hlt⟩
theorem PZ{M:Mem}{w:World}{base e s n g cap off:Nat}{xs:List Value}(h:w.ownsRow base e s (.slice (some ⟨g,off,none⟩) n cap) n xs):(J7 base M w).has g off xs∧n≤cap:=by
 have h0:=h;rcases h.2 with⟨h1,_⟩|⟨g',V0,jT,h1,hb,hg,ak,OY,Kt,htake⟩
 ·cases h1
 ·simp only[xb,qb,kN,zA,kO]at h1;obtain⟨⟨rfl,rfl⟩,rfl⟩:=h1;refine⟨fun j u hj =>?_,ak⟩;unfold J7;rw[qH hb];have:=h0.cells (g:=g) rfl j u hj;rw[Addr.add_mk]at this;exact this
theorem yez{M:Mem}{w:World}{base:Nat}{r:Value}{y:List js}(h:w.ownsRow base 9 1 r y.length (strCells y)):jz Tryz.prog Zc (J7 base M w) y r:=by
 refine⟨r,rfl,?_⟩;rcases h.2 with⟨h1,h2⟩|⟨g,cap,jT,h1,hb,hg,ak,_⟩
 ·exact .inl ⟨h1,zn h2⟩
 ·subst h1;obtain⟨h3,h4⟩:=PZ (M:=M) h;refine .inr (.inl ⟨g,0,cap,strCells y,rfl,h4,by unfold strCells;simp[Ty.size],h3,fun i hi =>?_⟩);show((strCells y).drop (i*1)).take 1=[.string y[i]]
  unfold strCells;rw[xe,List.take_one,List.head?_drop,yG,qr hi];rfl
theorem z18.rel{M:Mem}{w:World}{base:Nat}{v:Value}{ys:List (List js)}{rvs:List Value}(h:z18 w base v ys rvs):jz Tryz.prog YP (J7 base M w) ys v:=by
 refine⟨v,rfl,?_⟩;have hl:rvs.length=ys.length:=by have:=h.outer.1;omega
 rcases h.outer.2 with⟨h1,h2⟩|⟨g,cap,jT,h1,hb,hg,ak,_⟩
 ·exact .inl ⟨h1,zn h2⟩
 ·subst h1;obtain⟨h3,h4⟩:=PZ (M:=M) h.outer;refine .inr (.inl ⟨g,0,cap,rvs,rfl,h4,by simp[Ty.size,hl],h3,fun i hi =>?_⟩);obtain⟨r,k1,k2⟩:=h.rows i ys[i] (qr hi);obtain⟨v',k3,k4⟩:=yez (M:=M) k2;rw[show Zc.size=1 from rfl,xe,List.take_one,List.head?_drop,k1];exact⟨v',k3,k4⟩
structure Outside (v:Value) (rvs:List Value) (w w':World):Prop where
 os:w'.os=w.os
 tape:w'.tape=w.tape
 output:w'.output=w.output
 size:w.heap.size≤w'.heap.size
 block:∀k,k<w.heap.size→some k≠v.ownBlock→(∀r∈rvs,some k≠r.ownBlock)→w'.heap[k]?=w.heap[k]?
theorem z18.turn{w w1:World}{base g cap j:Nat}{ys:List (List js)}{rvs:List Value}{r r1:Value}{y1:List js}(h:z18 w base (.slice (some ⟨g,0,none⟩) ys.length cap) ys rvs)(hr:rvs[j]?=some r)(hg:w.grownBy w1 r.ownBlock)(ho:w1.ownsRow base 9 1 r1 y1.length (strCells y1))(ZT:r1.ownBlock=r.ownBlock∨r1.ownBlock=some w.heap.size):
  z18 (w1.setCell ⟨g,j,none⟩ r1) base (.slice (some ⟨g,0,none⟩) (ys.set j y1).length cap) (ys.set j y1) (rvs.set j r1):=by
 have hl:rvs.length=ys.length:=by have:=h.outer.1;omega
 have hj:j<ys.length:=by have:=(qp.1 hr).1;omega
 obtain⟨r',q1,q2⟩:=h.rows j ys[j] (qr hj);rw[hr,qb]at q1;subst q1;have jZ:=bK h.outer q2 (by decide);have ae:w1.ownsRow base 61 1 (.slice (some ⟨g,0,none⟩) ys.length cap) ys.length rvs:=h.outer.kept hg (by
  rcases jZ with e|e
  ·rw[e];exact .inr (by simp[Value.ownBlock])
  ·exact .inr (yL e))
 obtain⟨s1,s2⟩:=ae.stored j r1;have A0:∀(s:Value) (m:Nat) (cs:List Value),w1.ownsRow base 9 1 s m cs→(w1.setCell ⟨g,j,none⟩ r1).ownsRow base 9 1 s m cs:=fun s m cs hs=>hs.kept s2 (by
  have:=bK ae hs (by decide);simpa [Value.ownBlock]using this)
 have ju:∀(i:Nat) (s:Value),i≠j→rvs[i]?=some s→(s.ownBlock=none∨s.ownBlock≠r.ownBlock)∧(s.ownBlock=none∨s.ownBlock≠r1.ownBlock):=fun i s hi hs=>by
  have h1:=h.apart i j s r hi hs hr;refine⟨h1,?_⟩;rcases ZT with e|e
  ·rw[e];exact h1
  ·cases VO:s.ownBlock with
   |none=>exact .inl rfl
   |some k=>
    refine .inr fun e2 =>?_
    rw[e]at e2;have:=h.lt s (qK hs) k VO;injection e2 with e2
    omega
 refine⟨by rw[yx];exact s1,fun i y hy =>?_,fun i i' a b ey ha hb =>?_⟩
 ·rw[kZ]at hy⊢;by_cases hi:j=i
  ·subst hi;rw[qH rfl,qH hj]at hy;rw[qH rfl,qH (by omega)];injection hy with hy
   subst hy;exact⟨r1,rfl,A0 _ _ _ ho⟩
  ·rw[qT hi]at hy⊢;obtain⟨s,k1,k2⟩:=h.rows i y hy;exact⟨s,k1,A0 _ _ _ (k2.kept hg (ju i s (yL hi) k1).1)⟩
 ·rw[kZ]at ha hb;by_cases hi:j=i
  ·subst hi;rw[qH rfl,qH (by omega),qb]at ha;subst ha;rw[qT ey]at hb;rcases(ju i' b (yL ey) hb).2 with e|e
   ·rw[e];cases r1.ownBlock<;>simp
   ·cases FP:r1.ownBlock with
    |none=>exact .inl rfl
    |some k=>exact .inr (by rw[FP]at e;exact yL e)
  ·rw[qT hi]at ha;by_cases Fi:j=i'
   ·subst Fi;rw[qH rfl,qH (by omega),qb]at hb;subst hb;exact(ju i a ey ha).2
   ·rw[qT Fi]at hb;exact h.apart i i' a b ey ha hb
theorem iy{w w1:World}{g cap n j:Nat}{rvs:List Value}{r r1:Value}(hr:rvs[j]?=some r)(hg:w.grownBy w1 r.ownBlock):Outside (.slice (some ⟨g,0,none⟩) n cap) rvs w (w1.setCell ⟨g,j,none⟩ r1):=by
 refine⟨hg.os,hg.tape,hg.output,by simpa [World.setCell]using hg.size,fun k hk h1 h2 =>?_⟩;have:(w1.setCell ⟨g,j,none⟩ r1).heap[k]?=w1.heap[k]?:=by
  simp only[Value.ownBlock,ne_eq,qb]at h1;simp[World.setCell,zL,yL h1]
 rw[this];exact hg.block k hk (h2 r (qK hr))
theorem va{W:World}{g off:Nat}{jT:Array Value}{E:TypeId}{v:Value}(h:W.heap[g]?=some (.cells jT E (0,0)))(hv:jT[off]?=some v):W.cell? ⟨g,off,none⟩=some v:=(GN h).trans hv
theorem Vs{W:World}{g off:Nat}{jT:Array Value}{E:TypeId}(h:W.heap[g]?=some (.cells jT E (0,0))):W.frozen? ⟨g,off,none⟩=false:=by
 simp only[World.frozen?,h];rfl
theorem X9{M:Mem}{W:World}{g off:Nat}{v:Value}{jT:Array Value}{E:TypeId}(hg:Good M W)(hM:∀o,M g o=none)(hb:W.heap[g]?=some (.cells jT E (0,0))):
  Good M (W.setCell ⟨g,off,none⟩ v)∧Fra [g] M W M (W.setCell ⟨g,off,none⟩ v)∧(W.setCell ⟨g,off,none⟩ v).heap[g]?=some (.cells (jT.setIfInBounds off v) E (0,0)):=by
 have HE:∀j,j≠g→(W.setCell ⟨g,off,none⟩ v).heap[j]?=W.heap[j]?:=fun j hj=>by
  simp[World.setCell,zL,yL hj]
 refine⟨⟨wB.keep (Mem.le_refl _) (fun j c t fr hj =>?_) hg.1,fun b o u hu =>?_⟩,⟨Mem.le_refl _,rfl,rfl,rfl,by simp[World.setCell],fun j _ hj=>HE j (by simpa using hj),fun _ _ _=>rfl⟩,by simp[World.setCell,zL,hb]⟩
 ·by_cases e:j=g
  ·subst e;rw[hb]at hj;simp only[qb,xV]at hj;obtain⟨rfl,rfl,rfl⟩:=hj;exact⟨jT.setIfInBounds off v,(0,0),by simp[World.setCell,zL,hb],by simp⟩
  ·exact⟨c,fr,(HE j e).trans hj,rfl⟩
 have ju:b≠g:=fun e=>by rw[e,hM]at hu;cases hu
 exact(za (HE b ju)).trans (hg.2 b o u hu)
end Go.Lift
