/-
  The reader of words: the clause with two numbers, the table of the clauses.
-/
import Derived.Test.YtggnjngdmadbaaaGreatDoorManF
set_option maxRecDepth 100000
set_option maxHeartbeats 4000000
set_option linter.all false
namespace Go.Lift
open Go Go.Proofs Go.RowKit
attribute [local go_sem] Oper.semAt_some
theorem yeo{bR bO g2 g5:Nat}{M0:Mem}(ju:bR≠bO)(m2:M0 g2 0=some (.pointer (some ⟨bR,0,none⟩)))(m5:M0 g5 0=some (.pointer (some ⟨bO,5,none⟩)))(mp:Option (Nat×Obj)):
  gk bR bO M0 mp (.func (.func 206) #[] #[.pointer (some ⟨g2,0,none⟩),.pointer (some ⟨g5,0,none⟩)]) (J9 HT 4):=by
 refine⟨206,_,rfl,zV Tryz.func206 (by kernel_rfl) rfl,?_⟩;intro F hF hro n M w ws i o r jL Fa hg hR hO h0 jF;have wM:∀k:Nat,(F.depth.isSome=true→1≤k):=fun k h=>by rw[hF.depth]at h;cases h
 have k2:w.cell? ⟨g2,0,none⟩=some (.pointer (some ⟨bR,0,none⟩)):=hg.2 _ _ _ (jL _ _ _ m2);have k5:w.cell? ⟨g5,0,none⟩=some (.pointer (some ⟨bO,5,none⟩)):=hg.2 _ _ _ (jL _ _ _ m5);obtain⟨w0,oS⟩:∃w0,w.drew=w0:=⟨_,rfl⟩
 have Ws:Good M w0:=oS▸bF hg
 have ME:Fra [] M w M w0:=oS▸bz
 obtain⟨w1,w2,es,cl,v6,A6,Gc,hrel,wE,j7⟩:=PV Ws (bytes [116,111]) 10;have Ye:=gO 251 w0;rw[v6]at Ye;replace A6:(Instr.mapUpdate 251 (.map (some w0.heap.size)) (.string ⟨#[116,111]⟩) (.int .i64 10)).run Tryz.prog w1 = .ok () w2:=A6
 have f0:Fra [] M w M w2:=ME.trans (QN Ws j7);have k20:w0.cell? ⟨g2,0,none⟩=some (.pointer (some ⟨bR,0,none⟩)):=Ws.2 _ _ _ (jL _ _ _ m2);have k50:w0.cell? ⟨g5,0,none⟩=some (.pointer (some ⟨bO,5,none⟩)):=Ws.2 _ _ _ (jL _ _ _ m5);have Yg:Good M w1:=v6▸Zu Ws ((qN _ w0).alloc (ql _) _)
 have k21:w1.cell? ⟨g2,0,none⟩=some (.pointer (some ⟨bR,0,none⟩)):=Yg.2 _ _ _ (jL _ _ _ m2);have k51:w1.cell? ⟨g5,0,none⟩=some (.pointer (some ⟨bO,5,none⟩)):=Yg.2 _ _ _ (jL _ _ _ m5);have k22:w2.cell? ⟨g2,0,none⟩=some (.pointer (some ⟨bR,0,none⟩)):=wE.2 _ _ _ (jL _ _ _ m2);have k52:w2.cell? ⟨g5,0,none⟩=some (.pointer (some ⟨bO,5,none⟩)):=wE.2 _ _ _ (jL _ _ _ m5);have cc:=nu (cl:=cl) hF hro (n-1) 4 Gc hrel wE ju (hR.keep f0 (by simp)) (hO.keep f0 (by simp)) h0 jF;refine zy Tryz.func206 rfl (hF.fn 206) ?_ hro;simp only[Tryz.ntmps206,qJ,qk,qR,Nat.reduceAdd,Nat.reduceSub,zj,zk,zw,zo,qP,qS];gi_wp2
 gi_region_with ((try refine⟨hF.fn _,?_⟩);(try refine⟨wM _,?_⟩);gi_at_call 201;refine cc.mono ?_;clear cc;rintro e W2 ⟨M2,v,rfl,hv,QS,QT,QU,Ze⟩)
 all_goals gi_wp2
 all_goals refine zu (yi (t:=2) rfl _ _ _) rfl ?_
 all_goals exact⟨M2,_,rfl,hv,QS,(f0.sub (by simp)).trans QT,QU,Ze⟩
theorem yen{bR bO g2 g5:Nat}{M0:Mem}(ju:bR≠bO)(m2:M0 g2 0=some (.pointer (some ⟨bR,0,none⟩)))(m5:M0 g5 0=some (.pointer (some ⟨bO,5,none⟩)))(mp:Option (Nat×Obj)):
  gk bR bO M0 mp (.func (.func 207) #[] #[.pointer (some ⟨g2,0,none⟩),.pointer (some ⟨g5,0,none⟩)]) (J9 cJ 5):=by
 refine⟨207,_,rfl,zV Tryz.func207 (by kernel_rfl) rfl,?_⟩;intro F hF hro n M w ws i o r jL Fa hg hR hO h0 jF;have wM:∀k:Nat,(F.depth.isSome=true→1≤k):=fun k h=>by rw[hF.depth]at h;cases h
 have k2:w.cell? ⟨g2,0,none⟩=some (.pointer (some ⟨bR,0,none⟩)):=hg.2 _ _ _ (jL _ _ _ m2);have k5:w.cell? ⟨g5,0,none⟩=some (.pointer (some ⟨bO,5,none⟩)):=hg.2 _ _ _ (jL _ _ _ m5);obtain⟨w0,oS⟩:∃w0,w.drew=w0:=⟨_,rfl⟩
 have Ws:Good M w0:=oS▸bF hg
 have ME:Fra [] M w M w0:=oS▸bz
 obtain⟨w1,w2,es,cl,v6,A6,Gc,hrel,wE,j7⟩:=PV Ws (bytes [67]) 10;have Ye:=gO 251 w0;rw[v6]at Ye;replace A6:(Instr.mapUpdate 251 (.map (some w0.heap.size)) (.string ⟨#[67]⟩) (.int .i64 10)).run Tryz.prog w1 = .ok () w2:=A6
 have f0:Fra [] M w M w2:=ME.trans (QN Ws j7);have k20:w0.cell? ⟨g2,0,none⟩=some (.pointer (some ⟨bR,0,none⟩)):=Ws.2 _ _ _ (jL _ _ _ m2);have k50:w0.cell? ⟨g5,0,none⟩=some (.pointer (some ⟨bO,5,none⟩)):=Ws.2 _ _ _ (jL _ _ _ m5);have Yg:Good M w1:=v6▸Zu Ws ((qN _ w0).alloc (ql _) _)
 have k21:w1.cell? ⟨g2,0,none⟩=some (.pointer (some ⟨bR,0,none⟩)):=Yg.2 _ _ _ (jL _ _ _ m2);have k51:w1.cell? ⟨g5,0,none⟩=some (.pointer (some ⟨bO,5,none⟩)):=Yg.2 _ _ _ (jL _ _ _ m5);have k22:w2.cell? ⟨g2,0,none⟩=some (.pointer (some ⟨bR,0,none⟩)):=wE.2 _ _ _ (jL _ _ _ m2);have k52:w2.cell? ⟨g5,0,none⟩=some (.pointer (some ⟨bO,5,none⟩)):=wE.2 _ _ _ (jL _ _ _ m5);have cc:=nu (cl:=cl) hF hro (n-1) 5 Gc hrel wE ju (hR.keep f0 (by simp)) (hO.keep f0 (by simp)) h0 jF;refine zy Tryz.func207 rfl (hF.fn 207) ?_ hro;simp only[Tryz.ntmps207,qJ,qk,qR,Nat.reduceAdd,Nat.reduceSub,zj,zk,zw,zo,qP,qS];gi_wp2
 gi_region_with ((try refine⟨hF.fn _,?_⟩);(try refine⟨wM _,?_⟩);gi_at_call 201;refine cc.mono ?_;clear cc;rintro e W2 ⟨M2,v,rfl,hv,QS,QT,QU,Ze⟩)
 all_goals gi_wp2
 all_goals refine zu (yi (t:=2) rfl _ _ _) rfl ?_
 all_goals exact⟨M2,_,rfl,hv,QS,(f0.sub (by simp)).trans QT,QU,Ze⟩
end Go.Lift
namespace Go.Lift
open Go Go.Proofs Go.RowKit
attribute [local go_sem] Oper.semAt_some
theorem y12{w:World}{T:TypeId}{u v:Value}:(w.alloc (.cells #[u] T)).setCell ⟨w.heap.size,0,none⟩ v=w.alloc (.cells #[v] T):=by
 simp only[World.alloc,World.setCell,World.mk.injEq,zA];apply Array.ext_getElem?;intro i;rw[zL];split
 ·rename_i e;subst e;simp
 ·rename_i e;simp[Array.getElem?_push,yL e]
noncomputable def tV:KB:=gD (J9 HT 4) (J9 cJ 5)
theorem y74(M0:Mem)(mp:Option (Nat×Obj)):gW M0 mp (.func (.func 204) #[] #[]) tV:=by
 refine⟨204,_,rfl,zV Tryz.func204 (by kernel_rfl) rfl,?_⟩;intro F hF hro n M w bR bO ws i o r jL Fa hg ju hR hO h0 jF;have wM:∀k:Nat,(F.depth.isSome=true→1≤k):=fun k h=>by rw[hF.depth]at h;cases h
 obtain⟨w1,v6⟩:∃w1,w.alloc (.cells #[.pointer (some ⟨bR,0,none⟩)] 163)=w1:=⟨_,rfl⟩
 obtain⟨w2,Yc⟩:∃w2,w1.alloc (.cells #[.pointer (some ⟨bO,5,none⟩)] 254)=w2:=⟨_,rfl⟩
 obtain⟨g3,QS⟩:∃g3,w.heap.size=g3:=⟨_,rfl⟩
 obtain⟨g5,DF⟩:∃g5,g3+1=g5:=⟨_,rfl⟩
 obtain⟨gs,eA⟩:∃gs,g5+1=gs:=⟨_,rfl⟩
 obtain⟨v1,Q4⟩:∃v1,Value.func (.func 206) #[] #[.pointer (some ⟨g3,0,none⟩),.pointer (some ⟨g5,0,none⟩)]=v1:=⟨_,rfl⟩
 obtain⟨v2,Vc⟩:∃v2,Value.func (.func 207) #[] #[.pointer (some ⟨g3,0,none⟩),.pointer (some ⟨g5,0,none⟩)]=v2:=⟨_,rfl⟩
 obtain⟨w4,VK⟩:∃w4,w2.alloc (.cells #[v1,v2] 218)=w4:=⟨_,rfl⟩
 have z1:w1.heap.size=g5:=by rw[←v6,qQ,QS,DF]
 have z2:w2.heap.size=gs:=by rw[←Yc,qQ,z1,eA]
 have Zd:(w1.alloc (.cells #[.pointer none] 254)).setCell ⟨g5,0,none⟩ (.pointer (some ⟨bO,5,none⟩))=w2:=by
  rw[←Yc,←z1];exact y12
 obtain⟨a1,b1,c1⟩:=GO (cs := #[.pointer (some ⟨bR,0,none⟩)]) (T:=163) hg;rw[v6,QS]at a1 b1;rw[QS]at c1;obtain⟨a2,b2,c2⟩:=GO (cs := #[.pointer (some ⟨bO,5,none⟩)]) (T:=254) a1;rw[Yc,z1]at a2 b2;rw[z1]at c2;obtain⟨a4,b4,c4⟩:=GO (cs := #[v1,v2]) (T:=218) a2;rw[VK,z2]at a4 b4;rw[z2]at c4;generalize rY:Zi M g3 (#[Value.pointer (some ⟨bR,0,none⟩)]:Array Value).toList=M1 at a1 b1 c1 a2 b2 c2 a4 b4 c4;generalize fe:Zi M1 g5 (#[Value.pointer (some ⟨bO,5,none⟩)]:Array Value).toList=M2 at a2 b2 c2 a4 b4 c4;generalize fa:Zi M2 gs (#[v1,v2]:Array Value).toList=M4 at a4 b4 c4;have m3:M4 g3 0=some (.pointer (some ⟨bR,0,none⟩)):=c4 _ _ _ (c2 _ _ _ (by rw[←rY,Fz];rfl));have m5:M4 g5 0=some (.pointer (some ⟨bO,5,none⟩)):=c4 _ _ _ (by rw[←fe,Fz];rfl);have f4:Fra [bR,bO] M w M4 w4:=((QN hg b1).trans (QN a1 b2)).trans (QN a2 b4);have f0:Fra [] M w M4 w4:=((QN hg b1).trans (QN a1 b2)).trans (QN a2 b4);have s1:=yeo ju m3 m5 none;have s2:=yen ju m3 m5 none;rw[Q4]at s1;rw[Vc]at s2;have cc:=y14 (cap:=2) hF hro (n-1) s1 s2 (gs:=gs) (by rw[←fa,Fz];rfl) (by rw[←fa,Fz];rfl) (Mem.le_refl _) (fun g ob hm=>by cases hm) (fun g ob hm=>by cases hm) a4 ju (hR.keep f0 (by simp)) (hO.keep f0 (by simp)) h0 jF;subst Q4 Vc;have kf:(w1.alloc (.cells #[.pointer none] 254)).frozen? ⟨g5,0,none⟩=false:=by
  rw[←z1];simp only[World.frozen?,qz w1 (.cells #[.pointer none] 254)];rfl
 have kc:(w1.alloc (.cells #[.pointer none] 254)).cell? ⟨g5,0,none⟩=some (.pointer none):=by
  rw[←z1,GN (qz w1 (.cells #[.pointer none] 254))];rfl
 refine zy Tryz.func204 rfl (hF.fn 204) ?_ hro;simp only[Tryz.ntmps204,qJ,qk,qR,Nat.reduceAdd,Nat.reduceSub,zj,zk,zw,zo,qP,qS];gi_wp2_with ((try refine⟨hF.fn _,?_⟩);(try refine⟨wM _,?_⟩);gi_at_call 205;refine cc.mono ?_;clear cc;rintro e W2 ⟨M2,v,rfl,hv,wE,QT,QU,Ze⟩)
 refine zu (yi (t:=4) rfl _ _ _) rfl ?_;exact⟨M2,_,rfl,hv,wE,f4.trans QT,QU,Ze⟩
theorem LK{f:FuncId}{run:KB}(M0:Mem)(mp:Option (Nat×Obj))(he:∀args w,(callFunc f args).run Tryz.prog w = .ok (.enter f args) w)(h:Tr f run):gW M0 mp (.func (.func f) #[] #[]) run:=
 ⟨f,#[],rfl,he,fun hF hro n _ _ _ _ _ _ _ _ jL Fa hg ju hR hO h0 jF=>h hF hro n hg ju hR hO h0 jF⟩
end Go.Lift
namespace Go.Lift
open Go Go.Proofs Go.RowKit
attribute [local go_sem] Oper.semAt_some
theorem yfa{M:Mem}{w:World}(hg:Good M w)(j j2:js)(z z2:Int)(hj:jO j2 j=false):
  ∃w1 w2 w3 es cl,w.alloc (.map #[] 0)=w1∧(Instr.mapUpdate 251 (.map (some w.heap.size)) (.string j) (.int .i64 z)).run Tryz.prog w1 = .ok () w2∧(Instr.mapUpdate 251 (.map (some w.heap.size)) (.string j2) (.int .i64 z2)).run Tryz.prog w2 = .ok () w3∧w3.heap[w.heap.size]?=some (.map es cl)∧XB .str (.int .i64) [(j,z),(j2,z2)] es∧Good M w3∧vm M w M w3∧w3.heap.size=w.heap.size+1:=by
 have h1:(w.alloc (.map #[] 0)).heap[w.heap.size]?=some (.map #[] 0):=qz w _;obtain⟨w2,es,cl,a1,a2,a3,a4,a5⟩:=Uo (l:=[]) h1 rfl j z rfl;obtain⟨w3,es3,cl3,b1,b2,b3,b4,b5⟩:=Uo (l:=[(j,z)]) a2 a3 j2 z2 (by simp[hj]);have Qu:Below w.heap.size w (w.alloc (.map #[] 0)):=(qN _ w).alloc (ql _) _;have hb:=(Qu.trans a5).trans b5;exact⟨_,w2,w3,es3,cl3,rfl,a1,b1,b2,b3,Zu hg hb,⟨hb,fun _ _=>rfl⟩,by rw[b4,a4,qQ]⟩
theorem Sa{M M' M2:Mem}{w w' w2:World}(h:vm M w M' w')(k:vm M' w' M2 w2):vm M w M2 w2:=
 ⟨h.below.trans (k.below.mono h.below.size),fun b hb=>(k.mem b (qV hb h.below.size)).trans (h.mem b hb)⟩
def lK:List Bool:=[true,true,false,true,false,false]
def BX(gu:Nat):List Value:=[.func (.func 198) #[] #[],.func (.func 200) #[] #[.pointer (some ⟨gu,0,none⟩)],.func (.func 202) #[] #[.pointer (some ⟨gu,0,none⟩)],.func (.func 203) #[] #[],.func (.func 204) #[] #[],.func (.func 208) #[] #[]]
def Cd(gu:Nat):List Value:=((il.zip lK).zip (BX gu)).flatMap fun p=>[.string p.1.1,.bool p.1.2,p.2]
def fX(M:Mem)(w:World)(e:Ending)(w':World):Prop:=
 ∃M' gs gu gm es cl,e = .returned (.slice (some ⟨gs,0,none⟩) 6 6)∧Good M' w'∧vm M w M' w'∧w.heap.size≤gs∧M'.has gs 0 (Cd gu)∧M' gu 0=some (.map (some gm))∧w'.heap[gm]?=some (.map es cl)∧w.heap.size≤gm∧XB .str (.int .i64) D8 es
theorem zy6{F:Fence}(hF:Open F)(hro:F.round=none)(n:Nat){M:Mem}{w:World}(hg:Good M w):
  CallsIn F n Tryz.prog 166 #[] w (fX M w):=by
 obtain⟨w1,w2,w3,es,cl,v6,hu1,SI,hm3,hrel,QS,Oz,FM⟩:=yfa hg (bytes [117,109]) (bytes [109,109]) 1 1000 (by kernel_rfl);have Ye:=gO 251 w;rw[v6]at Ye;replace hu1:(Instr.mapUpdate 251 (.map (some w.heap.size)) (.string ⟨#[117,109]⟩) (.int .i64 1)).run Tryz.prog w1 = .ok () w2:=hu1
 replace SI:(Instr.mapUpdate 251 (.map (some w.heap.size)) (.string ⟨#[109,109]⟩) (.int .i64 1000)).run Tryz.prog w2 = .ok () w3:=SI
 obtain⟨w4,VK⟩:∃w4,w3.alloc (.cells #[.map (some w.heap.size)] 251)=w4:=⟨_,rfl⟩
 have Zd:(w3.alloc (.cells #[.map none] 251)).setCell ⟨w.heap.size+1,0,none⟩ (.map (some w.heap.size))=w4:=by
  rw[←VK,←FM];exact y12
 have kf:(w3.alloc (.cells #[.map none] 251)).frozen? ⟨w.heap.size+1,0,none⟩=false:=by
  rw[←FM];simp only[World.frozen?,qz w3 (.cells #[.map none] 251)];rfl
 have kc:(w3.alloc (.cells #[.map none] 251)).cell? ⟨w.heap.size+1,0,none⟩=some (.map none):=by
  rw[←FM,GN (qz w3 (.cells #[.map none] 251))];rfl
 have z4:w4.heap.size=w.heap.size+2:=by rw[←VK,qQ,FM]
 obtain⟨a4,b4,c4⟩:=GO (cs := #[.map (some w.heap.size)]) (T:=251) QS;rw[VK,FM]at a4 b4;rw[FM]at c4;obtain⟨a5,b5,c5⟩:=GO (cs:=(Cd (w.heap.size+1)).toArray) (T:=225) a4;rw[z4]at a5 b5 c5;generalize fa:Zi M (w.heap.size+1) (#[Value.map (some w.heap.size)]:Array Value).toList=M4 at a4 b4 c4 a5 b5 c5;generalize Tc:Zi M4 (w.heap.size+2) (Cd (w.heap.size+1)).toArray.toList=M5 at a5 b5 c5;refine zy Tryz.func166 rfl (hF.fn 166) ?_ hro;simp only[Tryz.ntmps166,qJ,qk,qR,Nat.reduceAdd,Nat.reduceSub,zj,zk,zw,zo,qP,qS];gi_wp2
 refine zu (yi (t:=0) rfl _ _ _) rfl ?_;have jZ:vm M w M5 (w4.alloc (.cells (Cd (w.heap.size+1)).toArray 225)):=Sa (Sa Oz b4) b5;refine⟨M5,w.heap.size+2,w.heap.size+1,w.heap.size,es,cl,by rw[←z4];rfl,a5,jZ,by omega,fun j u hj =>?_,?_,?_,ql _,hrel⟩
 ·rw[←Tc,qY,Fz];simpa using hj
 ·refine c5 _ _ _ ?_;rw[←fa,Fz];rfl
 ·rw[show(w4.alloc _).heap[w.heap.size]?=w4.heap[w.heap.size]? from WL w4 _ _ (by omega),←VK,WL w3 _ _ (by omega)];exact hm3
end Go.Lift
namespace Go.Lift
open Go Go.Proofs Go.RowKit
attribute [local go_sem] Oper.semAt_some
def PN(M:Mem)(w:World)(v:Value)(e:Ending)(w':World):Prop:=e = .returned v∧Good M w'∧vm M w M w'
theorem yco{F:Fence}(hF:Open F)(hro:F.round=none)(n:Nat){M:Mem}{w:World}(hg:Good M w){cw x:js}{m:Bool}{f:Value}{g9:Nat}(hf:∀cs,f ≠ .agg cs)(h9:w.cell? ⟨g9,0,none⟩=some (.string x)):
  CallsIn F n Tryz.prog 168 #[.agg #[.string cw,.bool m,f],.pointer (some ⟨g9,0,none⟩)] w (PN M w (.bool (jO cw x))):=by
 have BE:=zc w _ h9;obtain⟨w1,v6⟩:∃w1,w.alloc (.cells #[.string cw,.bool m,f] 225)=w1:=⟨_,rfl⟩
 have hb:Below w.heap.size w w1:=by rw[←v6];exact(qN _ w).alloc (ql _) _
 have Yg:=Zu hg hb;have k9:w1.cell? ⟨g9,0,none⟩=some (.string x):=(za (hb.block g9 BE)).trans h9;have kc:w1.cell? ⟨w.heap.size,0,none⟩=some (.string cw):=by
  rw[←v6,GN (qz w _)];rfl
 refine zy Tryz.func168 rfl (hF.fn 168) ?_ hro;simp only[Tryz.ntmps168,qJ,qk,qR,Nat.reduceAdd,Nat.reduceSub,zj,zk,zw,zo,qP,qS];gi_wp2
 refine zu (yi (t:=3) rfl _ _ _) rfl ?_;exact⟨rfl,Yg,hb,fun _ _=>rfl⟩
def idxOf:Option Nat→Int
 |none => -1
 |some k=>(k:Int)
theorem PK{gu k:Nat}(hk:k<6):∃cw m f,(Cd gu)[k*3]?=some (.string cw)∧(Cd gu)[k*3+1]?=some (.bool m)∧(Cd gu)[k*3+2]?=some f∧il[k]?=some cw∧lK[k]?=some m∧(BX gu)[k]?=some f∧∀cs,f ≠ .agg cs:=by
 obtain rfl|rfl|rfl|rfl|rfl|rfl:k=0∨k=1∨k=2∨k=3∨k=4∨k=5:=by omega
 all_goals exact⟨_,_,_,rfl,rfl,rfl,rfl,rfl,rfl,fun cs h=>by cases h⟩
theorem y2v{F:Fence}(hF:Open F)(hro:F.round=none)(n:Nat){M:Mem}{w:World}(hg:Good M w){gs gu g9:Nat}{x:js}(ht:M.has gs 0 (Cd gu))(h9:w.cell? ⟨g9,0,none⟩=some (.string x)):
  CallsIn F n Tryz.prog 167 #[.slice (some ⟨gs,0,none⟩) 6 6,.func (.func 168) #[] #[.pointer (some ⟨g9,0,none⟩)]] w (PN M w (.int .i64 (idxOf (Fw x)))):=by
 have wM:∀k:Nat,(F.depth.isSome=true→1≤k):=fun k h=>by rw[hF.depth]at h;cases h
 have BE:=zc w _ h9;have rk:∀args w,(callFunc 168 args).run Tryz.prog w = .ok (.enter 168 args) w:=zV Tryz.func168 (by kernel_rfl) rfl
 refine zy Tryz.func167 rfl (hF.fn 167) ?_ hro;simp only[Tryz.ntmps167,qJ,qk,qR,Nat.reduceAdd,Nat.reduceSub,zj,zk,zw,zo,qP,qS];gi_wp2
 gi_loopw [8] (fun p wr=>∃k:Nat,p = .int .i64 (k:Int)∧k≤6∧Good M wr∧vm M w M wr∧(∀j,j<k→∀c,il[j]?=some c→jO c x=false))
  (fun p wr=>(7-K4 p).toNat)
 case atStart=>exact⟨0,rfl,by omega,hg,⟨qN _ _,fun _ _=>rfl⟩,fun j hj=>absurd hj (zW _)⟩
 case round=>
  obtain⟨k,rfl,FSx,Wq,jZ,Ys⟩:=hrel;have k9:wr.cell? ⟨g9,0,none⟩=some (.string x):=(za (jZ.below.block g9 BE)).trans h9;by_cases hk:k<6
  ·obtain⟨cw,m,f,e1,e2,e3,e4,e5,e6,e7⟩:=PK (gu:=gu) hk;have c1:wr.cell? ⟨gs,k*3,none⟩=some (.string cw):=Wq.2 _ _ _ (by have:=ht _ _ e1;rwa [qY]at this);have c2:wr.cell? ⟨gs,k*3+1,none⟩=some (.bool m):=Wq.2 _ _ _ (by have:=ht _ _ e2;rwa [qY]at this);have c3:wr.cell? ⟨gs,k*3+2,none⟩=some f:=Wq.2 _ _ _ (by have:=ht _ _ e3;rwa [qY]at this);have cc:=yco hF hro (n-1) (cw:=cw) (m:=m) Wq e7 k9;cases hs:jO cw x with
   |true=>
    rw[hs]at cc;gi_wp2_with (refine⟨hF.fn _,wM _,cc.mono ?_⟩;clear cc;rintro e W2 ⟨rfl,wE,j7⟩)
    refine zu (yi (t:=4) rfl _ _ _) rfl ?_;refine⟨?_,wE,Sa jZ j7⟩;have:Fw x=some k:=by
     unfold Fw;rw[yM];obtain⟨hlt,he⟩:=qp.1 e4;exact⟨hlt,by rw[he];exact hs,fun j hj=>by
      have:=Ys j hj (il[j]) (qr (by omega));simp[this]⟩
    rw[this];rfl
   |false=>
    rw[hs]at cc;gi_wp2_with (refine⟨hF.fn _,wM _,cc.mono ?_⟩;clear cc;rintro e W2 ⟨rfl,wE,j7⟩)
    refine⟨⟨k+1,by simp,by omega,wE,Sa jZ j7,fun j hj c hc =>?_⟩,by simp only[K4];omega⟩;rcases Nat.lt_succ_iff_lt_or_eq.1 hj with h|rfl
    ·exact Ys j h c hc
    ·rw[e4]at hc;cases hc;exact hs
  ·obtain rfl:k=6:=by omega
   gi_wp2
   refine zu (yi (t:=4) rfl _ _ _) rfl ?_;refine⟨?_,Wq,jZ⟩;have:Fw x=none:=by
    unfold Fw;rw[xS];intro c hc;obtain⟨j,hj⟩:=xc.1 hc;have hj6:j<6:=(qp.1 hj).1;exact Ys j hj6 c hj
   rw[this];rfl
end Go.Lift
