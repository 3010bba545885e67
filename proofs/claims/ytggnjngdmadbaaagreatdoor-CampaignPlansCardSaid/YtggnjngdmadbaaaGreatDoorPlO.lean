/-
  The search for a plan, region by region.
-/
import Derived.Test.YtggnjngdmadbaaaGreatDoorPlN
import Derived.Test.YtggnjngdmadbaaaGreatDoorManI
set_option maxRecDepth 100000
set_option maxHeartbeats 1000000
set_option linter.all false
namespace Go.Lift
open Go Go.Proofs Go.RowKit
attribute [local go_sem] Oper.semAt_some
theorem cU{M:Mem}{y:List (List js)}{xs:List (Int×Int)}{yv:Value}(G5:jz Tryz.prog YP M y yv)(hx:gy y=some xs):yeb Tryz.prog (fun M' x v=>jz Tryz.prog wP M' x v) M xs 175 #[yv] #[]:=by
 unfold gy at hx;cases hc:decide (y.length≤1000)with
 |false=>rw[hc]at hx;cases hx
 |true=>
 rw[hc,qv]at hx;rw[qI]at hc;refine⟨zV Tryz.func175 (by kernel_rfl) rfl,?_⟩;intro F n l J Jx M0 W hM hd hF Yu hro Kx VY YL JT hY h0;exact ycc F ⟨hF,hd,Yu⟩ hro n l M y xs hc hx yv G5 J Jx M0 hM Kx YL (fun pre x N W1 hj hp=>hY pre x N W1 _ hj hp (yb7 x)) W h0
end Go.Lift
namespace Go.Lift
open Go Go.Proofs Go.RowKit
attribute [local go_sem] Oper.semAt_some j9
theorem y5t{w:World}{g:Nat}{v:Value}{E:TypeId}(h:w.heap[g]?=some (.cells #[v] E (0,0))):w.setCell ⟨g,0,none⟩ v=w:=by
 have:(w.setCell ⟨g,0,none⟩ v).heap=w.heap:=by
  apply Array.ext_getElem?;intro i;by_cases e:i=g
  ·subst e;rw[iA h,h];rfl
  ·simp[World.setCell,zL,yL e]
 cases w;simp only[World.setCell]at this⊢;rw[this]
theorem y8u{M:Mem}{w w1 w2 w3 w4 w5:World}{v:Value}(hg:Good M w)(v6:w.alloc (.map #[] 0)=w1)(Yc:w1.alloc (.map #[] 0)=w2)
  (YT:w2.alloc (.cells #[.map (some (w.heap.size+1))] 229)=w3) (VK:w3.alloc (.cells #[.int .i64 0] 3)=w4) (Cr:w4.alloc (.cells #[v] 232)=w5):
  PSt w M (w.heap.size+2) (w.heap.size+1) (w.heap.size+3) w.heap.size [] [] [] M w5:=by
 have z1:w1.heap.size=w.heap.size+1:=by rw[←v6,qQ]
 have z2:w2.heap.size=w.heap.size+2:=by rw[←Yc,qQ,z1]
 have z3:w3.heap.size=w.heap.size+3:=by rw[←YT,qQ,z2]
 have z4:w4.heap.size=w.heap.size+4:=by rw[←VK,qQ,z3]
 have b1:Below w.heap.size w w1:=by rw[←v6];exact(qN _ w).alloc (ql _) _
 have b2:Below (w.heap.size+1) w1 w2:=by rw[←Yc];exact(qN _ w1).alloc (by omega) _
 have b3:Below (w.heap.size+2) w2 w3:=by rw[←YT];exact(qN _ w2).alloc (by omega) _
 have b4:Below (w.heap.size+3) w3 w4:=by rw[←VK];exact(qN _ w3).alloc (by omega) _
 have b5:Below (w.heap.size+4) w4 w5:=by rw[←Cr];exact(qN _ w4).alloc (by omega) _
 have lo:∀{n m:Nat} {W W':World},m≤n→Below n W W'→Below m W W':=fun h b=>⟨b.os,b.tape,b.output,b.size,fun j hj=>b.block j (by omega)⟩
 have hb:Below w.heap.size w w5:=(((b1.trans (lo (by omega) b2)).trans (lo (by omega) b3)).trans (lo (by omega) b4)).trans (lo (by omega) b5);have e1:w5.heap[w.heap.size]?=some (.map #[] 0):=by
  rw[b5.block _ (by omega),b4.block _ (by omega),b3.block _ (by omega),b2.block _ (by omega),←v6];exact qz w _
 have e2:w5.heap[w.heap.size+1]?=some (.map #[] 0):=by
  rw[b5.block _ (by omega),b4.block _ (by omega),b3.block _ (by omega),←Yc,←z1];exact qz w1 _
 have e3:w5.heap[w.heap.size+2]?=some (.cells #[.map (some (w.heap.size+1))] 229 (0,0)):=by
  rw[b5.block _ (by omega),b4.block _ (by omega),←YT,←z2];exact qz w2 _
 have e4:w5.heap[w.heap.size+3]?=some (.cells #[.int .i64 0] 3 (0,0)):=by
  rw[b5.block _ (by omega),←VK,←z3];exact qz w3 _
 have lt:∀b o u,M b o=some u→b<w.heap.size:=fun b o u h=>by
  have h0:=hg.2 b o u h;rcases z7 b w.heap.size with hl|hl
  ·exact hl
  ·simp[World.cell?,Array.getElem?_eq_none hl]at h0
 have hc:∀b o u,M b o=some u→w5.cell? ⟨b,o,none⟩=some u:=fun b o u h=>by
  have hl:=lt b o u h;have h0:=hg.2 b o u h;have HE:=hb.block b hl;simp only[World.cell?,HE]at h0⊢;exact h0
 have hn:∀b o,w.heap.size≤b→M b o=none:=fun b o h=>by
  cases e:M b o with
  |none=>rfl
  |some u=>exact absurd (lt b o u e) (by omega)
 exact⟨hg,mN hg (Mem.le_refl M) hb hc,Mem.le_refl M,fun _ _=>rfl,hb,e3,e4,⟨_,_,e1,rfl⟩,
  ⟨⟨_,_,e2,rfl⟩,fun k=>⟨[],World.ownsRow_nil _ _ _ _,rfl,fun i hi=>absurd hi (zW _)⟩,fun _ _ _ =>.inl rfl,fun k b o h=>by cases h⟩,
  fun o=>hn _ o (by omega),by omega,by omega,by omega⟩
end Go.Lift
namespace Go.Lift
open Go Go.Proofs Go.RowKit
attribute [local go_sem] Oper.semAt_some j9
theorem GC{α:Type}:∀l:List α,l.length=65→∃x0 x1 x2 x3 x4 x5 x6 x7 x8 x9 QO Q7 Zv ZM Yq YC Yp Yo Yn Ym YB YA Yz Z2 YS YR YQ XT XS XR XQ XP XO XN XM XL KL KK KJ KI Hx Hw Hv Hu Ht Hs Hr Hq Hp Ho Hn Hm Hl Hk Hj Hi WN Hh Hg Jd Hf He Hd Hc Hb,l=x0::x1::x2::x3::x4::x5::x6::x7::x8::x9::QO::Q7::Zv::ZM::Yq::YC::Yp::Yo::Yn::Ym::YB::YA::Yz::Z2::YS::YR::YQ::XT::XS::XR::XQ::XP::XO::XN::XM::XL::KL::KK::KJ::KI::Hx::Hw::Hv::Hu::Ht::Hs::Hr::Hq::Hp::Ho::Hn::Hm::Hl::Hk::Hj::Hi::WN::Hh::Hg::Jd::Hf::He::Hd::Hc::Hb::[]
 |x0::x1::x2::x3::x4::x5::x6::x7::x8::x9::QO::Q7::Zv::ZM::Yq::YC::Yp::Yo::Yn::Ym::YB::YA::Yz::Z2::YS::YR::YQ::XT::XS::XR::XQ::XP::XO::XN::XM::XL::KL::KK::KJ::KI::Hx::Hw::Hv::Hu::Ht::Hs::Hr::Hq::Hp::Ho::Hn::Hm::Hl::Hk::Hj::Hi::WN::Hh::Hg::Jd::Hf::He::Hd::Hc::Hb::[],_=>⟨_,_,_,_,_,_,_,_,_,_,_,_,_,_,_,_,_,_,_,_,_,_,_,_,_,_,_,_,_,_,_,_,_,_,_,_,_,_,_,_,_,_,_,_,_,_,_,_,_,_,_,_,_,_,_,_,_,_,_,_,_,_,_,_,_,rfl⟩
noncomputable def wA:Code:=Tryz.f129.body.getD .skip
noncomputable def KC:Code:=cF (cF (cS (cF (cS (cS (cS (cS (cS (cS wA)))))))))
noncomputable def JZ:Code:=cF (cF (cS (cF (cF (cS KC)))))
noncomputable abbrev fp:Code:=cF JZ
structure wH (bq b8 gd b9:Nat) (df:List Deferred) (k:Int) (a:Act):Prop where
 size:a.tmps.size=65
 defers:a.defers=df
 t4:a.tmps.getD 4 undef = .slice none 0 0
 t5:a.tmps.getD 5 undef = .bool false
 t6:a.tmps.getD 6 undef = .map (some gd)
 t7:a.tmps.getD 7 undef = .pointer (some ⟨bq,0,none⟩)
 t8:a.tmps.getD 8 undef = .pointer (some ⟨b8,0,none⟩)
 t9:a.tmps.getD 9 undef = .pointer (some ⟨b9,0,none⟩)
 t10:a.tmps.getD 10 undef = .int .i64 k
theorem sL{M:Mem}{w:World}{bq gm b8 gd b9:Nat}{ps:jY}{done:List js}{l:List (Int×Value)}{M':Mem}{W:World}(h:PSt w M bq gm b8 gd ps done l M' W){df:List Deferred}{k:Int}{i:Nat}{a:Act}(ha:wH bq b8 gd b9 df k a)(hi:a.tmps.getD 11 undef = .int .i64 (i:Int)){Q:Exit→Act→World→Prop}
  (hlt:i<(QX ps k).length→∀a',wH bq b8 gd b9 df k a'→a'.tmps.getD 11 undef = .int .i64 (i:Int)→Q .normal a' W)
  (hge:(QX ps k).length≤i→∀a',wH bq b8 gd b9 df k a'→Q (.exit 2) a' W):
  Code.wpIn Fence.wide 4 Tryz.prog fp Q a W:=by
 obtain⟨⟨xs⟩,ds⟩:=a;obtain⟨hs,hd,t4,t5,t6,t7,t8,t9,t10⟩:=ha;obtain⟨es,cl,q1,q2⟩:=h.qs.map;obtain⟨cells,o1,o2⟩:=h.qs.row k;have lA:=U7 q1 q2 k;obtain⟨qa,qn,qc,e1⟩:=C0 o1;obtain rfl:qn=(QX ps k).length:=by
  rcases o1.2 with⟨e,e'⟩|⟨g,cap,jT,e,_⟩
  ·rw[e]at e1;cases e1;omega
  ·rw[e]at e1;cases e1;rfl
 rw[e1]at lA;have kq:W.cell? ⟨bq,0,none⟩=some (.map (some gm)):=va h.cq rfl;have fq:W.frozen? ⟨bq,0,none⟩=false:=Vs h.cq;simp only[qJ]at hs;obtain⟨x0,x1,x2,x3,x4,x5,x6,x7,x8,x9,QO,Q7,Zv,ZM,Yq,YC,Yp,Yo,Yn,Ym,YB,YA,Yz,Z2,YS,YR,YQ,XT,XS,XR,XQ,XP,XO,XN,XM,XL,KL,KK,KJ,KI,Hx,Hw,Hv,Hu,Ht,Hs,Hr,Hq,Hp,Ho,Hn,Hm,Hl,Hk,Hj,Hi,WN,Hh,Hg,Jd,Hf,He,Hd,Hc,Hb,rfl⟩:=GC xs hs;simp only at hd t4 t5 t6 t7 t8 t9 t10 hi;subst hd;obtain rfl:x4=_:=t4;obtain rfl:x5=_:=t5;obtain rfl:x6=_:=t6;obtain rfl:x7=_:=t7;obtain rfl:x8=_:=t8;obtain rfl:x9=_:=t9;obtain rfl:QO=_:=t10;obtain rfl:Q7=_:=hi;clear h;simp only[fp,JZ,KC,wA,Tryz.f129,qO,cF,cS];gi_wp2
 ·rename_i hc;exact hlt (by simpa using hc) _ ⟨rfl,rfl,rfl,rfl,rfl,rfl,rfl,rfl,rfl⟩ rfl
 ·rename_i hc;exact hge (by simpa using hc) _ ⟨rfl,rfl,rfl,rfl,rfl,rfl,rfl,rfl,rfl⟩
end Go.Lift
namespace Go.Lift
open Go Go.Proofs Go.RowKit
attribute [local go_sem] Oper.semAt_some j9
noncomputable abbrev HJ:Code:=cF (cF (cS JZ))
noncomputable abbrev Nr:Code:=cF HJ
theorem y9c{M:Mem}{n:wC}{cs:List Value}(h:jB Tryz.prog Zk M n cs):∃yv lv mv,cs=[yv,lv,mv,.int .i64 n.2.2.2]∧jz Tryz.prog YP M n.1 yv∧jz Tryz.prog Zc M n.2.1 lv∧jz Tryz.prog V4 M n.2.2.1 mv:=by
 obtain⟨yv,lv,mv,e,h1,h2,h3⟩:=gP (v :=.agg cs.toArray) ⟨_,rfl,by simpa using h⟩;injection e with e
 have:=congrArg Array.toList e;exact⟨yv,lv,mv,by simpa using this,h1,h2,h3⟩
theorem PX{M:Mem}{w:World}{bq gm b8 gd b9:Nat}{ps:jY}{done:List js}{l:List (Int×Value)}{M':Mem}{W:World}(h:PSt w M bq gm b8 gd ps done l M' W){df:List Deferred}{k:Int}{i:Nat}{n:wC}(hn:(QX ps k)[i]?=some n){a:Act}(ha:wH bq b8 gd b9 df k a)(hi:a.tmps.getD 11 undef = .int .i64 (i:Int)){Q:Exit→Act→World→Prop}
  (hQ:∀yv lv mv a',jz Tryz.prog YP M' n.1 yv→jz Tryz.prog Zc M' n.2.1 lv→jz Tryz.prog V4 M' n.2.2.1 mv→wH bq b8 gd b9 df k a'→a'.tmps.getD 11 undef = .int .i64 (i:Int)→a'.tmps.getD 12 undef = .pointer (some ⟨W.heap.size,0,none⟩)→Q .normal a' (W.alloc (.cells #[yv,lv,mv,.int .i64 n.2.2.2] 184))):
  Code.wpIn Fence.wide 4 Tryz.prog Nr Q a W:=by
 obtain⟨⟨xs⟩,ds⟩:=a;obtain⟨hs,hd,t4,t5,t6,t7,t8,t9,t10⟩:=ha;obtain⟨es,cl,q1,q2⟩:=h.qs.map;obtain⟨cells,o1,o2⟩:=h.qs.row k;have lA:=U7 q1 q2 k;obtain⟨X2,wy⟩:=qp.1 hn;obtain⟨g,cap,jT,e1,Yg,wE,QS,WP,DF,Fk⟩:∃g cap jT,vJ l k = .slice (some ⟨g,0,none⟩) (QX ps k).length cap∧w.heap.size≤g∧W.heap[g]?=some (.cells jT 184 (0,0))∧(QX ps k).length≤cap∧cap≤maxLen∧jT.size=cap*4∧jT.toList.take ((QX ps k).length*4)=cells:=by
  rcases o1.2 with⟨e,e'⟩|he
  ·omega
  ·exact he
 rw[e1]at lA;have Kt:=o1.cells (g:=g) (by rw[e1];rfl);have JL:=o2.2 i X2;rw[wy]at JL;obtain⟨yv,lv,mv,OT,r1,r2,r3⟩:=y9c JL;obtain⟨ya,yc,rfl⟩:=Ka r1;obtain⟨la,lc,rfl⟩:=Ka r2;obtain⟨ma,mc,rfl⟩:=Ka r3;have pQ:∀j u,[.slice ya n.1.length yc,.slice la n.2.1.length lc,.slice ma n.2.2.1.length mc,Value.int .i64 n.2.2.2][j]?=some u→W.cell? ⟨g,i*4+j,none⟩=some u:=by
  intro j u hj;have hj4:j<4:=by simpa using (qp.1 hj).1
  rw[←OT,List.getElem?_take_of_lt hj4,zd]at hj;have:=Kt (i*4+j) u hj;have e:(⟨g,0,none⟩:Addr).add (i*4+j)=⟨g,i*4+j,none⟩:=by unfold Addr.add;split<;>simp_all
  rw[←e];exact this
 have n0:W.cell? ⟨g,i*4,none⟩=some (.slice ya n.1.length yc):=pQ 0 _ rfl;have n1:=pQ 1 _ rfl;have n2:=pQ 2 _ rfl;have n3:=pQ 3 _ rfl;have fz:∀o,W.frozen? ⟨g,o,none⟩=false:=fun o=>Vs wE
 have kq:W.cell? ⟨bq,0,none⟩=some (.map (some gm)):=va h.cq rfl;have fq:W.frozen? ⟨bq,0,none⟩=false:=Vs h.cq;simp only[qJ]at hs;obtain⟨x0,x1,x2,x3,x4,x5,x6,x7,x8,x9,QO,Q7,Zv,ZM,Yq,YC,Yp,Yo,Yn,Ym,YB,YA,Yz,Z2,YS,YR,YQ,XT,XS,XR,XQ,XP,XO,XN,XM,XL,KL,KK,KJ,KI,Hx,Hw,Hv,Hu,Ht,Hs,Hr,Hq,Hp,Ho,Hn,Hm,Hl,Hk,Hj,Hi,WN,Hh,Hg,Jd,Hf,He,Hd,Hc,Hb,rfl⟩:=GC xs hs;simp only at hd t4 t5 t6 t7 t8 t9 t10 hi;subst hd;obtain rfl:x4=_:=t4;obtain rfl:x5=_:=t5;obtain rfl:x6=_:=t6;obtain rfl:x7=_:=t7;obtain rfl:x8=_:=t8;obtain rfl:x9=_:=t9;obtain rfl:QO=_:=t10;obtain rfl:Q7=_:=hi;clear h Kt pQ;simp only[Nr,HJ,JZ,KC,wA,Tryz.f129,qO,cF,cS];gi_wp2
 exact hQ _ _ _ _ r1 r2 r3 ⟨rfl,rfl,rfl,rfl,rfl,rfl,rfl,rfl,rfl⟩ rfl rfl
end Go.Lift
namespace Go.Lift
open Go Go.Proofs Go.RowKit
attribute [local go_sem] Oper.semAt_some j9
noncomputable abbrev fy:Code:=cF (cS HJ)
noncomputable abbrev cG:Code:=cF (cS (cS HJ))
theorem PR{M':Mem}{W:World}{n:wC}{df:List Deferred}{k:Int}{i bq b8 gd b9 bn:Nat}{yv lv mv:Value}(hb:W.heap[bn]?=some (.cells #[yv,lv,mv,.int .i64 n.2.2.2] 184 (0,0)))(r1:jz Tryz.prog YP M' n.1 yv)(r2:jz Tryz.prog Zc M' n.2.1 lv)(r3:jz Tryz.prog V4 M' n.2.2.1 mv){a:Act}(ha:wH bq b8 gd b9 df k a)(hi:a.tmps.getD 11 undef = .int .i64 (i:Int))(hn:a.tmps.getD 12 undef = .pointer (some ⟨bn,0,none⟩)){Q:Exit→Act→World→Prop}
  (h0:n.2.1=[]→∀a',a'.tmps.size=65→a'.defers=df→a'.tmps.getD 4 undef=mv→a'.tmps.getD 5 undef = .bool true→Q .ret a' W)
  (h1:n.2.1≠[]→∀a',wH bq b8 gd b9 df k a'→a'.tmps.getD 11 undef = .int .i64 (i:Int)→a'.tmps.getD 12 undef = .pointer (some ⟨bn,0,none⟩)→Q .normal a' W):
  Code.wpIn Fence.wide 4 Tryz.prog fy Q a W:=by
 obtain⟨ya,yc,rfl⟩:=Ka r1;obtain⟨la,lc,rfl⟩:=Ka r2;obtain⟨ma,mc,rfl⟩:=Ka r3;have n1:W.cell? ⟨bn,1,none⟩=some (.slice la n.2.1.length lc):=va hb rfl;have n2:W.cell? ⟨bn,2,none⟩=some (.slice ma n.2.2.1.length mc):=va hb rfl;have fz:∀o,W.frozen? ⟨bn,o,none⟩=false:=fun o=>Vs hb
 obtain⟨⟨xs⟩,ds⟩:=a;obtain⟨hs,hd,t4,t5,t6,t7,t8,t9,t10⟩:=ha;simp only[qJ]at hs;obtain⟨x0,x1,x2,x3,x4,x5,x6,x7,x8,x9,QO,Q7,Zv,ZM,Yq,YC,Yp,Yo,Yn,Ym,YB,YA,Yz,Z2,YS,YR,YQ,XT,XS,XR,XQ,XP,XO,XN,XM,XL,KL,KK,KJ,KI,Hx,Hw,Hv,Hu,Ht,Hs,Hr,Hq,Hp,Ho,Hn,Hm,Hl,Hk,Hj,Hi,WN,Hh,Hg,Jd,Hf,He,Hd,Hc,Hb,rfl⟩:=GC xs hs;simp only at hd t4 t5 t6 t7 t8 t9 t10 hi hn;subst hd;obtain rfl:x4=_:=t4;obtain rfl:x5=_:=t5;obtain rfl:x6=_:=t6;obtain rfl:x7=_:=t7;obtain rfl:x8=_:=t8;obtain rfl:x9=_:=t9;obtain rfl:QO=_:=t10;obtain rfl:Q7=_:=hi;obtain rfl:Zv=_:=hn;clear hb;simp only[fy,HJ,JZ,KC,wA,Tryz.f129,qO,cF,cS];gi_wp2
 ·rename_i hc;exact h0 (zn (by simpa using hc)) _ rfl rfl rfl rfl
 ·rename_i hc;exact h1 (fun e=>by rw[e]at hc;cases hc) _ ⟨rfl,rfl,rfl,rfl,rfl,rfl,rfl,rfl,rfl⟩ rfl rfl
theorem ydz{M':Mem}{W:World}(hg:Good M' W){n:wC}{s:js}(hs:bW n=some s){df:List Deferred}{k:Int}{i bq b8 gd b9 bn:Nat}{yv lv mv:Value}(hb:W.heap[bn]?=some (.cells #[yv,lv,mv,.int .i64 n.2.2.2] 184 (0,0)))(r1:jz Tryz.prog YP M' n.1 yv)(r2:jz Tryz.prog Zc M' n.2.1 lv)(r3:jz Tryz.prog V4 M' n.2.2.1 mv){a:Act}(ha:wH bq b8 gd b9 df k a)(hi:a.tmps.getD 11 undef = .int .i64 (i:Int))(hn:a.tmps.getD 12 undef = .pointer (some ⟨bn,0,none⟩)){Q:Exit→Act→World→Prop}
  (h1:∀a' W' M2,Good M2 W'→vm M' W M2 W'→Mem.le M' M2→wH bq b8 gd b9 df k a'→a'.tmps.getD 11 undef = .int .i64 (i:Int)→a'.tmps.getD 12 undef = .pointer (some ⟨bn,0,none⟩)→a'.tmps.getD 13 undef = .string s→Q .normal a' W'):
  Code.wpIn Fence.wide 4 Tryz.prog cG Q a W:=by
 obtain⟨ya,yc,rfl⟩:=Ka r1;obtain⟨la,lc,rfl⟩:=Ka r2;obtain⟨ma,mc,rfl⟩:=Ka r3;have n0:W.cell? ⟨bn,0,none⟩=some (.slice ya n.1.length yc):=va hb rfl;have n1:W.cell? ⟨bn,1,none⟩=some (.slice la n.2.1.length lc):=va hb rfl;have n2:W.cell? ⟨bn,2,none⟩=some (.slice ma n.2.2.1.length mc):=va hb rfl;have n3:W.cell? ⟨bn,3,none⟩=some (.int .i64 n.2.2.2):=va hb rfl;have fz:∀o,W.frozen? ⟨bn,o,none⟩=false:=fun o=>Vs hb
 obtain⟨⟨xs⟩,ds⟩:=a;obtain⟨hz,hd,t4,t5,t6,t7,t8,t9,t10⟩:=ha;simp only[qJ]at hz;obtain⟨x0,x1,x2,x3,x4,x5,x6,x7,x8,x9,QO,Q7,Zv,ZM,Yq,YC,Yp,Yo,Yn,Ym,YB,YA,Yz,Z2,YS,YR,YQ,XT,XS,XR,XQ,XP,XO,XN,XM,XL,KL,KK,KJ,KI,Hx,Hw,Hv,Hu,Ht,Hs,Hr,Hq,Hp,Ho,Hn,Hm,Hl,Hk,Hj,Hi,WN,Hh,Hg,Jd,Hf,He,Hd,Hc,Hb,rfl⟩:=GC xs hz;simp only at hd t4 t5 t6 t7 t8 t9 t10 hi hn;subst hd;obtain rfl:x4=_:=t4;obtain rfl:x5=_:=t5;obtain rfl:x6=_:=t6;obtain rfl:x7=_:=t7;obtain rfl:x8=_:=t8;obtain rfl:x9=_:=t9;obtain rfl:QO=_:=t10;obtain rfl:Q7=_:=hi;obtain rfl:Zv=_:=hn;have QA:CallsIn Fence.wide 3 Tryz.prog 174 #[.agg #[.slice ya n.1.length yc,.slice la n.2.1.length lc,.slice ma n.2.2.1.length mc,.int .i64 n.2.2.2]] W fun e W'=>∃M2,e = .returned (.string s)∧Good M2 W'∧vm M' W M2 W':=by
  refine Open.calls ET (((zn2 un).2 n s hs M' W [_] hg ⟨_,rfl,mF r1 r2 r3⟩).mono fun e W3 =>?_);rintro⟨M3,u,rfl,hu,QS,jZ⟩;have SI:jz Tryz.prog .str M3 s u:=hu;obtain rfl:u = .string s:=by simpa [jz,Qd,Ty.agg,jB,encS]using SI
  exact⟨M3,rfl,QS,jZ⟩
 clear hb;simp only[cG,HJ,JZ,KC,wA,Tryz.f129,qO,cF,cS];gi_wp2_with ((try refine⟨trivial,?_⟩);gi_at_call 174;refine QA.mono ?_;rintro e W1 ⟨M2,rfl,wE,j7⟩)
 exact h1 _ _ M2 wE j7 (QN (G:=[]) hg j7).le ⟨rfl,rfl,rfl,rfl,rfl,rfl,rfl,rfl,rfl⟩ rfl rfl rfl
end Go.Lift
namespace Go.Lift
open Go Go.Proofs Go.RowKit
attribute [local go_sem] Oper.semAt_some j9
noncomputable abbrev dG:Code:=cF (cS (cS (cS HJ)))
theorem y1o{P:Program}{w:World}{k v:Ty}(hk:k.scal=true)(hv:v.scal=true){T:TypeId}(ht:fits P (.mapT k v) (.inl T)=true){g:Nat}{es:Array MapEntry}{cl:Nat}{l:List (k.den×v.den)}(hb:w.heap[g]?=some (.map es cl))(hl:XB k v l es)(j:k.den):
  (Instr.lookup T (.map (some g)) (encS k j) false).run P w = .ok (encS v (wK k v l j)) w:=by
 obtain⟨K,V,hu,_,_,YJ,pZ,iv,DC,hz⟩:=bi ht;obtain⟨ik,dk,Qa⟩:=Qx YJ;have Vi:=yS (w:=w) Qa.und (Ap hk YJ Qa.und j) es.isEmpty 9999;rcases bw hk YJ Qa.und j es.toList l 0 hl with⟨g1,_,g3⟩|⟨n,pre,p,post,g1,g2,g3,g4,_,g5⟩
 ·have vv:=zU (w:=w) Qa.und g1;have hm:wK k v l j=v.dflt:=by unfold wK;rw[g3]
  rw[hm];simp only[Instr.lookup,qy,qG hu,qt,zH hb,qD,Vi,vv,Ux DC hz];rfl
 ·have vv:=zU (w:=w) Qa.und g1;have hm:wK k v l j=p.2:=by unfold wK;rw[g5]
  rw[hm];simp only[Instr.lookup,qy,qG hu,qt,zH hb,qD,Vi,vv];rfl
theorem y58(s:js):∀done:List js,wK .str .bool (done.map fun s=>(s,true)) s=done.any fun t=>jO s t
 |[]=>rfl
 | t::done=>by
  have ih:=y58 s done;unfold wK at ih⊢;rw[zl,yU,yH];cases e:jO s t with
  |true=>
   have:Ty.str.eqb s t=true:=e;simp only[this];rfl
  |false=>
   have:Ty.str.eqb s t=false:=e;simp only[this];rw[yF];exact ih
theorem y9k{W:World}{done:List js}{s:js}{df:List Deferred}{k:Int}{i bq b8 gd b9 bn:Nat}(hdn:∃es cl,W.heap[gd]?=some (.map es cl)∧XB .str .bool (done.reverse.map fun s=>(s,true)) es){a:Act}(ha:wH bq b8 gd b9 df k a)(hi:a.tmps.getD 11 undef = .int .i64 (i:Int))(hn:a.tmps.getD 12 undef = .pointer (some ⟨bn,0,none⟩))(hk:a.tmps.getD 13 undef = .string s){Q:Exit→Act→World→Prop}
  (h1:∀a',wH bq b8 gd b9 df k a'→a'.tmps.getD 11 undef = .int .i64 (i:Int)→a'.tmps.getD 12 undef = .pointer (some ⟨bn,0,none⟩)→a'.tmps.getD 13 undef = .string s→a'.tmps.getD 53 undef = .bool (!(done.any fun t=>jO s t))→Q .normal a' W):
  Code.wpIn Fence.wide 4 Tryz.prog dG Q a W:=by
 obtain⟨es,cl,q1,q2⟩:=hdn;have lA:(Instr.lookup 146 (.map (some gd)) (.string s) false).run Tryz.prog W = .ok (.bool (done.any fun t=>jO s t)) W:=by
  have:=y1o (P:=Tryz.prog) (k :=.str) (v :=.bool) rfl rfl (T:=146) (by kernel_rfl) q1 q2 s;rw[y58,jn]at this;exact this
 obtain⟨⟨xs⟩,ds⟩:=a;obtain⟨hz,hd,t4,t5,t6,t7,t8,t9,t10⟩:=ha;simp only[qJ]at hz;obtain⟨x0,x1,x2,x3,x4,x5,x6,x7,x8,x9,QO,Q7,Zv,ZM,Yq,YC,Yp,Yo,Yn,Ym,YB,YA,Yz,Z2,YS,YR,YQ,XT,XS,XR,XQ,XP,XO,XN,XM,XL,KL,KK,KJ,KI,Hx,Hw,Hv,Hu,Ht,Hs,Hr,Hq,Hp,Ho,Hn,Hm,Hl,Hk,Hj,Hi,WN,Hh,Hg,Jd,Hf,He,Hd,Hc,Hb,rfl⟩:=GC xs hz;simp only at hd t4 t5 t6 t7 t8 t9 t10 hi hn hk;subst hd;obtain rfl:x4=_:=t4;obtain rfl:x5=_:=t5;obtain rfl:x6=_:=t6;obtain rfl:x7=_:=t7;obtain rfl:x8=_:=t8;obtain rfl:x9=_:=t9;obtain rfl:QO=_:=t10;obtain rfl:Q7=_:=hi;obtain rfl:Zv=_:=hn;obtain rfl:ZM=_:=hk;clear q1 q2;simp only[dG,HJ,JZ,KC,wA,Tryz.f129,qO,cF,cS];gi_wp2
 exact h1 _ ⟨rfl,rfl,rfl,rfl,rfl,rfl,rfl,rfl,rfl⟩ rfl rfl rfl rfl
end Go.Lift
namespace Go.Lift
open Go Go.Proofs Go.RowKit
theorem PSt.alloc{w:World}{M:Mem}{bq gm b8 gd:Nat}{ps:jY}{done:List js}{l:List (Int×Value)}{M':Mem}{W:World}(h:PSt w M bq gm b8 gd ps done l M' W)(cs:Array Value)(T:TypeId):
  PSt w M bq gm b8 gd ps done l (Zi M' W.heap.size cs.toList) (W.alloc (.cells cs T))∧Mem.le M' (Zi M' W.heap.size cs.toList):=by
 obtain⟨a,b,c⟩:=GO (cs:=cs) (T:=T) h.good;exact⟨h.kept a b c,c⟩
theorem PSt.cell{w:World}{M:Mem}{bq gm b8 gd:Nat}{ps:jY}{done:List js}{l:List (Int×Value)}{M' M2:Mem}{W:World}(h:PSt w M bq gm b8 gd ps done l M2 W)(jL:Mem.le M' M2){b o:Nat}{v:Value}(hv:M' b o=some v):W.cell? ⟨b,o,none⟩=some v:=h.good.2 b o v (jL b o v hv)
theorem ycw{s:js}{done:List js}(hs:(done.any fun t=>jO s t)=false):ZP .str .bool (done.reverse.map fun s=>(s,true)) s true=((s::done).reverse.map fun s=>(s,true)):=by
 rw[tm,List.reverse_cons,zv]
 ·rfl
 ·rw[List.any_map,jn];exact hs
theorem IX{P:Program}{w:World}{k v:Ty}(hk:k.scal=true){T:TypeId}(ht:fits P (.mapT k v) (.inl T)=true){g:Nat}{es:Array MapEntry}{cl:Nat}{l:List (k.den×v.den)}(hb:w.heap[g]?=some (.map es cl))(hl:XB k v l es)(j:k.den)(z:v.den)(hn:(l.any fun p=>k.eqb j p.1)=false):
  ∃Zx Kz,(Instr.mapUpdate T (.map (some g)) (encS k j) (encS v z)).run P w = .ok () {w with heap:=w.heap.setIfInBounds g (.map Zx Kz)}∧XB k v (ZP k v l j z) Zx:=by
 obtain⟨K,V,hu,_,_,YJ,pZ,_⟩:=bi ht;obtain⟨ik,dk,Qa⟩:=Qx YJ;have Vi:=yS (w:=w) Qa.und (Ap hk YJ Qa.und j) false 9999;rcases bw hk YJ Qa.und j es.toList l 0 hl with⟨g1,g2,g3⟩|⟨n,pre,p,post,g1,g2,g3,g4,g6,g5⟩
 ·have vv:=zU (w:=w) Qa.und g1;refine⟨es.push {key:=encS k j,val:=encS v z,born:=cl},cl+1,?_,?_⟩
  ·simp only[Instr.mapUpdate,qy,qG hu,qt,zH hb,Vi,vv,yW _ hb,qD]
  ·rw[tm hn];unfold XB at hl⊢;rw[k7,zv,zv,hl];rfl
 ·exfalso;have hp:k.eqb j p.1=true:=by
   have:=List.find?_some g5;exact this
  rw[g2,List.any_append,yH,hp]at hn;simp at hn
theorem PSt.did{w:World}{M:Mem}{bq gm b8 gd:Nat}{ps:jY}{done:List js}{l:List (Int×Value)}{M':Mem}{W:World}(h:PSt w M bq gm b8 gd ps done l M' W){s:js}(hs:(done.any fun t=>jO s t)=false)(X4:w.heap.size≤gd):
  ∃W',(Instr.mapUpdate 146 (.map (some gd)) (.string s) (.bool true)).run Tryz.prog W = .ok () W'∧PSt w M bq gm b8 gd ps (s::done) l M' W':=by
 obtain⟨es,cl,d1,d2⟩:=h.cd;obtain⟨Zx,Kz,e1,e2⟩:=IX (P:=Tryz.prog) (k :=.str) (v :=.bool) rfl (T:=146) (by kernel_rfl) d1 d2 s true (by rw[List.any_map,jn];exact hs);rw[ycw hs]at e2;refine⟨_,e1,?_⟩;have hl:=(qd.1 d1).1;have other:∀j,j≠gd→(W.heap.setIfInBounds gd (.map Zx Kz))[j]?=W.heap[j]?:=fun j hj=>yr (yL hj)
 have nc:∀{j:Nat} {o:Obj},W.heap[j]?=some o→(∀es cl,o ≠ .map es cl)→j≠gd:=fun hj ho e=>by
  rw[e,d1]at hj;exact ho _ _ (zQ hj).symm
 have Yj:Below w.heap.size w {W with heap:=W.heap.setIfInBounds gd (.map Zx Kz)}:=
  ⟨h.below.os,h.below.tape,h.below.output,by simpa using h.below.size,fun j hj=>(other j (by omega)).trans (h.below.block j hj)⟩
 have Qr:∀b o v,M' b o=some v→({W with heap:=W.heap.setIfInBounds gd (.map Zx Kz)}:World).cell? ⟨b,o,none⟩=some v:=fun b o v hv=>by
  have hc:=h.good.2 b o v hv;have ju:b≠gd:=fun e=>by subst e;simp[World.cell?,d1]at hc
  have:=other b ju;simp only[World.cell?,this]at hc⊢;exact hc
 have Fg:W.grownBy {W with heap:=W.heap.setIfInBounds gd (.map Zx Kz)} (some gd):=⟨rfl,rfl,rfl,by simp,fun j hj ju=>other j (by simpa using ju)⟩
 have vX:∀k,(vJ l k).ownBlock=none∨(vJ l k).ownBlock≠some gd:=fun k=>by
  obtain⟨cells,o1,_⟩:=h.qs.row k;rcases o1.2 with⟨e,_⟩|⟨g,cap,jT,e,_,hg,_⟩
  ·left;rw[e];rfl
  ·right;rw[e];intro e2;exact nc hg (fun _ _=>by simp) (zQ e2)
 obtain⟨MF,MN,m1,m2⟩:=h.qs.map;exact⟨h.g0,mN h.g0 h.le Yj Qr,h.le,h.mem,Yj,(other _ (nc h.cq (fun _ _=>by simp))).trans h.cq,(other _ (nc h.c8 (fun _ _=>by simp))).trans h.c8,
  ⟨Zx,Kz,by simp[kp,hl],e2⟩,
  ⟨⟨MF,MN,(other _ h.ne).trans m1,m2⟩,fun k=>(h.qs.row k).imp fun cells hc=>⟨hc.1.kept Fg (vX k),hc.2⟩,h.qs.apart,h.qs.mem⟩,h.m8,h.n8,h.nm,h.ne⟩
attribute [local go_sem] Oper.semAt_some j9
noncomputable abbrev t129:Code:=cF (cS (cS (cS (cS HJ))))
noncomputable abbrev cK:Code:=cF t129
noncomputable abbrev cI:Code:=cF (cS t129)
theorem fM{W W':World}{s:js}{df:List Deferred}{k:Int}{i bq b8 gd b9 bn:Nat}(jF:(Instr.mapUpdate 146 (.map (some gd)) (.string s) (.bool true)).run Tryz.prog W = .ok () W'){a:Act}(ha:wH bq b8 gd b9 df k a)(hi:a.tmps.getD 11 undef = .int .i64 (i:Int))(hn:a.tmps.getD 12 undef = .pointer (some ⟨bn,0,none⟩))(hk:a.tmps.getD 13 undef = .string s){Q:Exit→Act→World→Prop}
  (h1:∀a',wH bq b8 gd b9 df k a'→a'.tmps.getD 11 undef = .int .i64 (i:Int)→a'.tmps.getD 12 undef = .pointer (some ⟨bn,0,none⟩)→Q .normal a' W'):
  Code.wpIn Fence.wide 4 Tryz.prog cK Q a W:=by
 obtain⟨⟨xs⟩,ds⟩:=a;obtain⟨hz,hd,t4,t5,t6,t7,t8,t9,t10⟩:=ha;simp only[qJ]at hz;obtain⟨x0,x1,x2,x3,x4,x5,x6,x7,x8,x9,QO,Q7,Zv,ZM,Yq,YC,Yp,Yo,Yn,Ym,YB,YA,Yz,Z2,YS,YR,YQ,XT,XS,XR,XQ,XP,XO,XN,XM,XL,KL,KK,KJ,KI,Hx,Hw,Hv,Hu,Ht,Hs,Hr,Hq,Hp,Ho,Hn,Hm,Hl,Hk,Hj,Hi,WN,Hh,Hg,Jd,Hf,He,Hd,Hc,Hb,rfl⟩:=GC xs hz;simp only at hd t4 t5 t6 t7 t8 t9 t10 hi hn hk;subst hd;obtain rfl:x4=_:=t4;obtain rfl:x5=_:=t5;obtain rfl:x6=_:=t6;obtain rfl:x7=_:=t7;obtain rfl:x8=_:=t8;obtain rfl:x9=_:=t9;obtain rfl:QO=_:=t10;obtain rfl:Q7=_:=hi;obtain rfl:Zv=_:=hn;obtain rfl:ZM=_:=hk;simp only[cK,t129,HJ,JZ,KC,wA,Tryz.f129,qO,cF,cS];gi_wp2
 exact h1 _ ⟨rfl,rfl,rfl,rfl,rfl,rfl,rfl,rfl,rfl⟩ rfl rfl
theorem yfc{W:World}{yv:Value}{df:List Deferred}{k:Int}{i bq b8 gd b9 bn:Nat}(hy:W.cell? ⟨bn,0,none⟩=some yv){a:Act}(ha:wH bq b8 gd b9 df k a)(hi:a.tmps.getD 11 undef = .int .i64 (i:Int))(hn:a.tmps.getD 12 undef = .pointer (some ⟨bn,0,none⟩)){Q:Exit→Act→World→Prop}
  (h1:∀a',wH bq b8 gd b9 df k a'→a'.tmps.getD 11 undef = .int .i64 (i:Int)→a'.tmps.getD 12 undef = .pointer (some ⟨bn,0,none⟩)→a'.tmps.getD 58 undef = .func (.func 175) #[yv] #[]→Q .normal a' W):
  Code.wpIn Fence.wide 4 Tryz.prog cI Q a W:=by
 obtain⟨⟨xs⟩,ds⟩:=a;obtain⟨hz,hd,t4,t5,t6,t7,t8,t9,t10⟩:=ha;simp only[qJ]at hz;obtain⟨x0,x1,x2,x3,x4,x5,x6,x7,x8,x9,QO,Q7,Zv,ZM,Yq,YC,Yp,Yo,Yn,Ym,YB,YA,Yz,Z2,YS,YR,YQ,XT,XS,XR,XQ,XP,XO,XN,XM,XL,KL,KK,KJ,KI,Hx,Hw,Hv,Hu,Ht,Hs,Hr,Hq,Hp,Ho,Hn,Hm,Hl,Hk,Hj,Hi,WN,Hh,Hg,Jd,Hf,He,Hd,Hc,Hb,rfl⟩:=GC xs hz;simp only at hd t4 t5 t6 t7 t8 t9 t10 hi hn;subst hd;obtain rfl:x4=_:=t4;obtain rfl:x5=_:=t5;obtain rfl:x6=_:=t6;obtain rfl:x7=_:=t7;obtain rfl:x8=_:=t8;obtain rfl:x9=_:=t9;obtain rfl:QO=_:=t10;obtain rfl:Q7=_:=hi;obtain rfl:Zv=_:=hn;simp only[cI,t129,HJ,JZ,KC,wA,Tryz.f129,qO,cF,cS];gi_wp2
 exact h1 _ ⟨rfl,rfl,rfl,rfl,rfl,rfl,rfl,rfl,rfl⟩ rfl rfl rfl
end Go.Lift
namespace Go.Lift
open Go Go.Proofs Go.RowKit
attribute [local go_sem] Oper.semAt_some j9
noncomputable abbrev i129:Code:=cS (cS JZ)
noncomputable abbrev du:Code:=cF KC
noncomputable abbrev ct:Code:=cF (cF (cF (cS KC)))
noncomputable abbrev fW:Code:=cS (cS KC)
theorem y81{W:World}{df:List Deferred}{k:Int}{i bq b8 gd b9:Nat}(hw:wrap64 ((i:Int)+1)=((i+1:Nat):Int)){a:Act}(ha:wH bq b8 gd b9 df k a)(hi:a.tmps.getD 11 undef = .int .i64 (i:Int)){Q:Exit→Act→World→Prop}
  (h1:∀a',wH bq b8 gd b9 df k a'→a'.tmps.getD 11 undef = .int .i64 ((i+1:Nat):Int)→Q .normal a' W):
  Code.wpIn Fence.wide 4 Tryz.prog i129 Q a W:=by
 obtain⟨⟨xs⟩,ds⟩:=a;obtain⟨hz,hd,t4,t5,t6,t7,t8,t9,t10⟩:=ha;simp only[qJ]at hz;obtain⟨x0,x1,x2,x3,x4,x5,x6,x7,x8,x9,QO,Q7,Zv,ZM,Yq,YC,Yp,Yo,Yn,Ym,YB,YA,Yz,Z2,YS,YR,YQ,XT,XS,XR,XQ,XP,XO,XN,XM,XL,KL,KK,KJ,KI,Hx,Hw,Hv,Hu,Ht,Hs,Hr,Hq,Hp,Ho,Hn,Hm,Hl,Hk,Hj,Hi,WN,Hh,Hg,Jd,Hf,He,Hd,Hc,Hb,rfl⟩:=GC xs hz;simp only at hd t4 t5 t6 t7 t8 t9 t10 hi;subst hd;obtain rfl:x4=_:=t4;obtain rfl:x5=_:=t5;obtain rfl:x6=_:=t6;obtain rfl:x7=_:=t7;obtain rfl:x8=_:=t8;obtain rfl:x9=_:=t9;obtain rfl:QO=_:=t10;obtain rfl:Q7=_:=hi;simp only[i129,JZ,KC,wA,Tryz.f129,qO,cF,cS];gi_wp2
 exact h1 _ ⟨rfl,rfl,rfl,rfl,rfl,rfl,rfl,rfl,rfl⟩ (congrArg (Value.int .i64) hw)
theorem y7o{W:World}{df:List Deferred}{k:Int}{bq b8 gd b9:Nat}{a:Act}(ha:wH bq b8 gd b9 df k a){Q:Exit→Act→World→Prop}
  (h1:∀a',wH bq b8 gd b9 df k a'→a'.tmps.getD 11 undef = .int .i64 ((0:Nat):Int)→Q .normal a' W):
  Code.wpIn Fence.wide 4 Tryz.prog ct Q a W:=by
 obtain⟨⟨xs⟩,ds⟩:=a;obtain⟨hz,hd,t4,t5,t6,t7,t8,t9,t10⟩:=ha;simp only[qJ]at hz;obtain⟨x0,x1,x2,x3,x4,x5,x6,x7,x8,x9,QO,Q7,Zv,ZM,Yq,YC,Yp,Yo,Yn,Ym,YB,YA,Yz,Z2,YS,YR,YQ,XT,XS,XR,XQ,XP,XO,XN,XM,XL,KL,KK,KJ,KI,Hx,Hw,Hv,Hu,Ht,Hs,Hr,Hq,Hp,Ho,Hn,Hm,Hl,Hk,Hj,Hi,WN,Hh,Hg,Jd,Hf,He,Hd,Hc,Hb,rfl⟩:=GC xs hz;simp only at hd t4 t5 t6 t7 t8 t9 t10;subst hd;obtain rfl:x4=_:=t4;obtain rfl:x5=_:=t5;obtain rfl:x6=_:=t6;obtain rfl:x7=_:=t7;obtain rfl:x8=_:=t8;obtain rfl:x9=_:=t9;obtain rfl:QO=_:=t10;simp only[ct,KC,wA,Tryz.f129,qO,cF,cS];gi_wp2
 exact h1 _ ⟨rfl,rfl,rfl,rfl,rfl,rfl,rfl,rfl,rfl⟩ rfl
theorem TW{W:World}{df:List Deferred}{k m:Int}{bq b8 gd b9:Nat}(h8:W.heap[b8]?=some (.cells #[.int .i64 m] 3 (0,0))){a:Act}(ha:wH bq b8 gd b9 df k a){Q:Exit→Act→World→Prop}
  (h1:k≤m→∀a',wH bq b8 gd b9 df k a'→Q .normal a' W) (h2:m<k→∀a',wH bq b8 gd b9 df k a'→Q (.exit 0) a' W):
  Code.wpIn Fence.wide 4 Tryz.prog du Q a W:=by
 have k8:W.cell? ⟨b8,0,none⟩=some (.int .i64 m):=va h8 rfl;obtain⟨⟨xs⟩,ds⟩:=a;obtain⟨hz,hd,t4,t5,t6,t7,t8,t9,t10⟩:=ha;simp only[qJ]at hz;obtain⟨x0,x1,x2,x3,x4,x5,x6,x7,x8,x9,QO,Q7,Zv,ZM,Yq,YC,Yp,Yo,Yn,Ym,YB,YA,Yz,Z2,YS,YR,YQ,XT,XS,XR,XQ,XP,XO,XN,XM,XL,KL,KK,KJ,KI,Hx,Hw,Hv,Hu,Ht,Hs,Hr,Hq,Hp,Ho,Hn,Hm,Hl,Hk,Hj,Hi,WN,Hh,Hg,Jd,Hf,He,Hd,Hc,Hb,rfl⟩:=GC xs hz;simp only at hd t4 t5 t6 t7 t8 t9 t10;subst hd;obtain rfl:x4=_:=t4;obtain rfl:x5=_:=t5;obtain rfl:x6=_:=t6;obtain rfl:x7=_:=t7;obtain rfl:x8=_:=t8;obtain rfl:x9=_:=t9;obtain rfl:QO=_:=t10;clear h8;simp only[du,KC,wA,Tryz.f129,qO,cF,cS];gi_wp2
 ·rename_i hc;exact h1 (by simpa using hc) _ ⟨rfl,rfl,rfl,rfl,rfl,rfl,rfl,rfl,rfl⟩
 ·rename_i hc;exact h2 (by simpa using hc) _ ⟨rfl,rfl,rfl,rfl,rfl,rfl,rfl,rfl,rfl⟩
theorem yf6{W:World}{df:List Deferred}{k:Int}{bq b8 gd b9:Nat}(hw:wrap64 (k+1)=k+1){a:Act}(ha:wH bq b8 gd b9 df k a){Q:Exit→Act→World→Prop}
  (hQ:True→∀a',wH bq b8 gd b9 df (k+1) a'→Q .normal a' W):
  Code.wpIn Fence.wide 4 Tryz.prog fW Q a W:=by
 obtain⟨⟨xs⟩,ds⟩:=a;obtain⟨hz,hd,t4,t5,t6,t7,t8,t9,t10⟩:=ha;simp only[qJ]at hz;obtain⟨x0,x1,x2,x3,x4,x5,x6,x7,x8,x9,QO,Q7,Zv,ZM,Yq,YC,Yp,Yo,Yn,Ym,YB,YA,Yz,Z2,YS,YR,YQ,XT,XS,XR,XQ,XP,XO,XN,XM,XL,KL,KK,KJ,KI,Hx,Hw,Hv,Hu,Ht,Hs,Hr,Hq,Hp,Ho,Hn,Hm,Hl,Hk,Hj,Hi,WN,Hh,Hg,Jd,Hf,He,Hd,Hc,Hb,rfl⟩:=GC xs hz;simp only at hd t4 t5 t6 t7 t8 t9 t10;subst hd;obtain rfl:x4=_:=t4;obtain rfl:x5=_:=t5;obtain rfl:x6=_:=t6;obtain rfl:x7=_:=t7;obtain rfl:x8=_:=t8;obtain rfl:x9=_:=t9;obtain rfl:QO=_:=t10;simp only[fW,KC,wA,Tryz.f129,qO,cF,cS];gi_wp2
 exact hQ trivial _ ⟨rfl,rfl,rfl,rfl,rfl,rfl,rfl,rfl,congrArg (Value.int .i64) hw⟩
end Go.Lift
