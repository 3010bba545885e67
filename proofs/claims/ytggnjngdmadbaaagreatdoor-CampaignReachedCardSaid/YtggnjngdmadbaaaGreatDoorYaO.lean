/-
  The contract of the reference's move.
-/
import Derived.Test.YtggnjngdmadbaaaGreatDoorYaN
set_option linter.unusedSectionVars false
set_option linter.unusedVariables false
set_option linter.unusedSimpArgs false
namespace Go.Lift
open Go Go.Proofs Go.RowKit
attribute [local go_sem] Oper.semAt_some
theorem zm5{M:Mem}{q:List ByteArray}{r:Value}(h:relV Tryz.prog TWt M q r):∃a c,r = .slice a q.length c:=by
 obtain⟨v',h1,h2⟩:relC Tryz.prog TWt M q [r]:=h;simp only[List.cons.injEq,and_true] at h1;subst h1;rcases h2 with⟨rfl,rfl⟩|⟨b,off,cap,cells,rfl,_⟩|⟨a,c,rfl,rfl⟩
 ·exact⟨_,_,rfl⟩
 ·exact⟨_,_,rfl⟩
 ·exact⟨_,_,rfl⟩
theorem z14.pile{w:World}{base i:Nat}{v:Value}{ys:List (List ByteArray)}{rvs:List Value}{p:List ByteArray}{m:Nat}(h:z14 w base v ys rvs)(hp:ys[i]?=some p)(hm:p.length=m+1):∃g cap b c,v = .slice (some ⟨g,0,none⟩) ys.length cap∧base≤g∧g < w.heap.size∧m+1≤c∧rvs[i]?=some (.slice (some ⟨b,0,none⟩) (m+1) c)∧w.ownsRow base 9 1 (.slice (some ⟨b,0,none⟩) (m+1) c) (m+1) (strCells p)∧
  w.cell? ⟨g,i,none⟩=some (.slice (some ⟨b,0,none⟩) (m+1) c)∧w.frozen? ⟨g,i,none⟩=false∧w.cell? ⟨b,m,none⟩=some (.string (p.getD (p.length-1) ByteArray.empty)):=by
 have hi:i < ys.length:=(qp.1 hp).1;obtain⟨g,cap,rfl,hg1,hg2⟩:=h.shape (by omega);obtain⟨r,q1,q2,c1,c1'⟩:=h.row hp;obtain⟨b,c,rfl,hmc⟩:∃b c,r = .slice (some ⟨b,0,none⟩) p.length c∧p.length≤c:=by
  rcases q2.2 with⟨_,h0⟩|⟨b,c,_,h1,_,_,h2,_⟩
  ·omega
  ·exact⟨b,c,h1,h2⟩
 have hs:p[m]?=some (p.getD (p.length-1) ByteArray.empty):=by
  rw[show p.length-1=m by omega,List.getD_eq_getElem?_getD];cases e:p[m]? with
  |none=>rw[List.getElem?_eq_none_iff] at e;omega
  |some x=>rfl
 have hc2:w.cell? ⟨b,m,none⟩=some (.string (p.getD (p.length-1) ByteArray.empty)):=by
  have:=q2.cells (g:=b) rfl m (.string (p.getD (p.length-1) ByteArray.empty)) (by
   unfold strCells;rw[List.getElem?_map,hs];rfl)
  rwa [Addr.add_mk,Nat.zero_add] at this
 rw[hm] at q1 q2 c1 hmc;exact⟨g,cap,b,c,rfl,hg1,hg2,hmc,q1,q2,c1,c1',hc2⟩
theorem z14.cut{w:World}{base g cap i m b c:Nat}{ys:List (List ByteArray)}{rvs:List Value}{p:List ByteArray}(h:z14 w base (.slice (some ⟨g,0,none⟩) ys.length cap) ys rvs)(hm:p.length=m+1)(q1:rvs[i]?=some (.slice (some ⟨b,0,none⟩) (m+1) c))(q2:w.ownsRow base 9 1 (.slice (some ⟨b,0,none⟩) (m+1) c) (m+1) (strCells p)) :
  z14 (w.setCell ⟨g,i,none⟩ (.slice (some ⟨b,0,none⟩) m c)) base (.slice (some ⟨g,0,none⟩) (ys.set i (p.take (p.length-1))).length cap) (ys.set i (p.take (p.length-1))) (rvs.set i (.slice (some ⟨b,0,none⟩) m c)):=
 h.turn (r1 :=.slice (some ⟨b,0,none⟩) m c) (y1:=p.take (p.length-1)) q1 ⟨rfl,rfl,rfl,ql _,fun _ _ _=>rfl⟩ (by
  have:=y18 q2 (m:=m) (by omega);rw[List.length_take,show min (p.length-1) p.length=m by omega,show p.length-1=m by omega];have e2:(strCells p).take m=strCells (p.take m):=by unfold strCells;rw[List.map_take]
  rw[e2] at this;exact this) (.inl rfl)
end Go.Lift
namespace Go.Lift
open Go Go.Proofs Go.RowKit
attribute [local go_sem] Oper.semAt_some
end Go.Lift
namespace Go.Lift
open Go Go.Proofs Go.RowKit
set_option maxRecDepth 100000
end Go.Lift
