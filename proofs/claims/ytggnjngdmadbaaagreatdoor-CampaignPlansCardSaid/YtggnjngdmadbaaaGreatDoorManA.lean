/-
  The contracts of the library's functions on strings and slices.
-/
import Derived.Test.YtggnjngdmadbaaaGreatDoorFunT
import Derived.Test.YtggnjngdmadbaaaGreatDoorShelf
import Derived.Lib.AppendIntMem
set_option maxRecDepth 100000
set_option linter.all false
namespace Go.Lift
open Go Go.Proofs Go.RowKit Go.Sort
theorem ul:Has Tryz.prog Rv:=by
 refine⟨enters_of (by kernel_rfl),fun x r hr M w vs hg Q3 =>?_⟩;obtain⟨v,rfl,hv⟩:=Q3;have hv:v = .int .i64 x:=YX.1 hv;subst hv;have hr:strconv_Itoa x=some r:=hr;unfold strconv_Itoa at hr;cases hc:decide ((-9223372036854775808:Int)≤x)&&decide (x≤9223372036854775807)with
 |false=>rw[hc]at hr;cases hr
 |true=>
  rw[hc,qv,qb]at hr;rw[qg,qI,qI]at hc
  have ht : Lib.TabIs Tryz.prog w "internal/strconv.uint64pow10" .u64 Lib.pow10Tab := (hg.1.1 _ (qE.2 rfl)).is hg.2 (by kernel_rfl)
  refine yT (Tryz.strconv_Itoa x hc.1 hc.2 w ht) fun e w' he =>?_
  obtain⟨rfl,k,os,rfl⟩:=he;have hb:Below w.heap.size w (grow (w.drewN k) os):=Lib.below_grow _ w (ql _) k os;exact⟨M,_,rfl,by rw[←hr];exact Xj.2 rfl,Zu hg hb,hb,fun _ _=>rfl⟩
end Go.Lift
namespace Go.Proofs
open Go.Shelf Go.RowKit Go.Lib
variable {P:Program} {ρ:Ren}
set_option maxHeartbeats 2000000 in
theorem clone_at(L:SlLaysE0.n41 P ρ)(i0:TypeInfo)(z:Value)(size bytes:Nat)(hi:P.info? (ρ.t 23)=some i0)(Nx:i0.zero=some z)(Z4:i0.size=size)(G3:i0.bytes=bytes)(Ko:z.cells.size=size)(vQ:0<size)
  (z23:∀w,(Go.sizeOf (ρ.t 23)).run P w = .ok size w) (a:Addr) (n c:Nat) (news:List Value) (w:World) (hl:news.length=n*size) (hn:n≤maxLen) (eO:n*bytes≤140737488355328)
  (hc:∀j u,news[j]?=some u→w.cell? (a.add j)=some u) (h1:∀u∈news,u.oneCell'=true):
  Calls P (ρ.f 41) #[.slice (some a) n c] w fun e w'=>∃v',e = .returned v'∧w'.ownsRow w.heap.size (ρ.t 23) size v' n news∧Below w.heap.size w w':=by
 have mixed:=L.mixed;have t4:=L.t4;have a4:=L.a4;have z4:=L.z4;have v4:=L.v4;have t22:=L.t22;have a22:=L.a22;have z22:=L.z22;have v22:=L.v22;have q22:∀(w:World) (a:Option Addr) (n c n' c':Nat),(binOp .eql (ρ.t 22) (.slice a n c) (.slice none n' c')).run P w = .ok (.bool a.isNone) w:=fun w a n c n' c'=>Lib.run_eql_slice_nil w _ _ a n c n' c' L.t22
 have u22:∀w,Sem.run P (underlying (ρ.t 22)) w = .ok (TypeDesc.slice (ρ.t 23)) w:=qG t22
 have A:Aside (∀j u,news[j]?=some u→w.cell? (a.add j)=some u):=hc;clear hc;obtain⟨_,_,FG⟩:=L.f41;go_enter FG,SlBodyN.n41_ntmps ρ
 go_wp2_with (at_builtin;refine jc _ rfl _ _ (ρ.t 22) rfl w.heap.size (ρ.t 23) i0 z size bytes t22 hi Nx Z4 G3 Ko vQ _ _ _ rfl (World.ownsRow_made w #[] 0 (Nat.le_refl _) (zz _) (by simp)) a n c news rfl ?qc1 ?qc2 ?qc3 ?qc4 ?qc5 ?qc6 ?_)
 case qc1=>exact hl
 case qc2=>
  intro j u hj;exact Lib.cell?_alloc_some _ (A.out j u hj)
 case qc3=>exact h1
 case qc4=>rw[qY];exact hn
 case qc5=>rw[qY];exact eO
 case qc6=>simp
 intro v' w1 wx JF JB;go_wp2
 go_ret
 refine⟨v',rfl,by simpa using wx,?_⟩;exact((qN _ w).alloc (Nat.le_refl _) _).grown JF (by simp) (by intro k hk;simp[Value.ownBlock]at hk;omega)
end Go.Proofs
namespace Go.Lift
open Go Go.Proofs Go.RowKit Go.Shelf
theorem y0q{ρ:Ren}(L:SlLaysE0.n41 Tryz.prog ρ){e:Ty}(wF:fits Tryz.prog e (.inl (ρ.t 23))=true)(Wl:e.plain=true)(Qm:0<e.size){M:Mem}{w:World}{x:List e.den}{v:Value}(hg:Good M w)(jL:x.length≤4294967296)(hv:jz Tryz.prog (.slice e) M x v):
  z9n Tryz.prog (ρ.f 41) #[v] M w e x:=by
 obtain⟨i0,d0,hI⟩:=Qx wF;obtain⟨z,hz,hzr,_⟩:=hI.zero Wl;have Ko:z.cells.size=e.size:=by have:=Qp e M _ _ (hzr M);simpa using this
 obtain⟨v',Q4,Vc⟩:=HP hv;have Di:v=v':=by
  have h:=Rn hv;rw[Q4]at h;exact h.symm
 subst Di;have Qu:x.length*i0.bytes≤140737488355328:=by
  have:=xG jL hI.bytes;omega
 have key:∀(a:Addr) (n cap:Nat) (news:List Value),v = .slice (some a) n cap→n=x.length→news.length=n*e.size→(∀j u,news[j]?=some u→w.cell? (a.add j)=some u)→(∀i (hi:i<x.length),jB Tryz.prog e M x[i] ((news.drop (i*e.size)).take e.size))→
   z9n Tryz.prog (ρ.f 41) #[v] M w e x:=by
  rintro a n cap news rfl rfl h1 h2 h3;refine yT (clone_at L i0 z e.size i0.bytes hI.info hz hI.size rfl Ko Qm (fun w=>Kj hI w) a x.length cap news w h1 (ze jL (by decide)) Qu h2 ?_) fun e' w' he =>?_
  ·intro u hu;obtain⟨j,hj,rfl⟩:=kH hu;have hi:j / e.size<x.length:=by rw[Nat.div_lt_iff_lt_mul Qm];omega
   have hm:=Nat.mod_add_div j e.size;have hlt:=Nat.mod_lt j Qm;refine Ao e _ _ (h3 _ hi) _ (xc.2 ⟨j%e.size,?_⟩);rw[zb,qH hlt,zd,show j / e.size*e.size+j%e.size=j by rw[Nat.mul_comm];omega,qr hj]
  ·obtain⟨v',rfl,ho,hb⟩:=he;obtain⟨M',g1,g2,g3,g4⟩:=ybx (P:=Tryz.prog) (e:=e) (x:=x) hg hb ho h3;exact⟨M',v',rfl,g1,g2,g3,g4⟩
 rcases Vc with⟨rfl,h0⟩|⟨b,off,cap,cells,rfl,h2,h3,h4,h5⟩|⟨a,cap,rfl,h0⟩
 ·subst h0;refine yT (AnyE.slices_Clone_nil L 0 0 w) fun e' w' he =>?_
  obtain⟨rfl,rfl⟩:=he;exact⟨M,_,rfl,hg,⟨qN _ _,fun _ _=>rfl⟩,hv,.inl rfl⟩
 ·exact key ⟨b,off,none⟩ x.length cap cells rfl rfl h3 (fun j u hj=>by rw[Addr.add_mk];exact hg.2 _ _ _ (h4 j u hj)) h5
 ·subst h0;exact key a 0 cap [] rfl rfl (by simp) (fun j u hj=>by simp at hj) (fun i hi=>by simp at hi)
theorem yat{α:Type}{x r:List α}(h:app [] x=some r):x.length≤4294967296∧r=x:=by
 unfold app at h;split at h
 ·rename_i jL;rw[qP,qb]at h;exact⟨by simpa using jL,h.symm⟩
 ·cases h
theorem y0r{ρ:Ren}(L:SlLaysE0.n41 Tryz.prog ρ){e:Ty}(wF:fits Tryz.prog e (.inl (ρ.t 23))=true)(Wl:e.plain=true)(Qm:0<e.size){f:FuncId}(hf:ρ.f 41=f)(he:lX Tryz.prog f=true):
  Has Tryz.prog ⟨f,[.slice e],[.slice e],fun x=>app [] x⟩:=by
 subst hf;refine⟨enters_of he,fun x r hr M w vs hg Q3 =>?_⟩;obtain⟨v,rfl,hv⟩:=Q3;obtain⟨jL,rfl⟩:=yat hr;exact(y0q L wF Wl Qm hg jL hv).calls
theorem yaj{ρ:Ren}(L:SlLaysE0.n41 Tryz.prog ρ){e:Ty}(wF:fits Tryz.prog e (.inl (ρ.t 23))=true)(Wl:e.plain=true)(Qm:0<e.size){f:FuncId}(hf:ρ.f 41=f):
  aX Tryz.prog ⟨f,[.slice e],[.slice e],fun x=>app [] x⟩:=by
 subst hf;intro e' x l hl M w vs hg Q3;obtain⟨v,rfl,hv⟩:=Q3;unfold Sig.listRun at hl;split at hl
 ·rename_i h;injection h with h
  injection h with h
  subst h;obtain⟨jL,rfl⟩:=yat hl;exact y0q L wF Wl Qm hg jL hv
 ·cases hl
theorem Kb:Has Tryz.prog nM:=y0r Tryz.laysSlE041_f187 (e :=.str) (by kernel_rfl) rfl (by decide) rfl (by kernel_rfl)
end Go.Lift
namespace Go.Lift
open Go Go.Proofs Go.RowKit
theorem y2f{M:Mem}{w:World}(hg:Good M w):∃m,w.cell? ⟨1,0,none⟩=some (.int .i64 m):=by
 obtain⟨v,h1,m,rfl⟩:=hg.1.2 (1,false) (by simp);exact⟨m,hg.2 _ _ _ h1⟩
theorem y55{M:Mem}{w:World}(hg:Good M w){G:Nat}(h:(G,true)∈[(1,false),(2,true),(3,true)]):∃v,w.cell? ⟨G,0,none⟩=some v∧(v = .nilIface∨∃t u,v = .iface t u):=by
 obtain⟨v,h1,h2⟩:=hg.1.2 (G,true) h;exact⟨v,hg.2 _ _ _ h1,h2⟩
theorem zt0:Has Tryz.prog zqu:=by
 refine⟨enters_of (by kernel_rfl),fun x r hr M w vs hg Q3 =>?_⟩;obtain⟨v,rest,rfl,hv,u,rfl,hu⟩:=Q3;obtain rfl:v = .string x.1:=Xj.1 hv;obtain rfl:u = .string x.2:=Xj.1 hu;have hr:lR x.2 x.1=some r:=hr;unfold lR at hr;cases hc:(x.2.size==1)&&decide (x.1.size≤4294967280)with
 |false=>rw[hc]at hr;cases hr
 |true=>
  rw[hc,qv,qb]at hr;rw[qg,qI,yo]at hc;obtain⟨m,hm⟩:=y2f hg;refine yT (Tryz.strings_Split x.1 x.2 m w (by omega) hm (by omega)) fun e w' he =>?_
  obtain⟨rfl,rfl⟩:=he;have jH:r.length=Lib.countB x.1 x.2+1:=by rw[←hr];exact Lib.splitB_all x.2 (by omega) 0 _ x.1 rfl
  have jL:Lib.countB x.1 x.2≤x.1.size:=Lib.countB_le x.2 (by omega) x.1.size x.1 (ql _);rw[hr];have hb:Below w.heap.size w (w.alloc (.cells (r.map Value.string).toArray 9)):=(qN _ w).alloc (ql _) _;obtain⟨M',g1,g2,g3⟩:=P0 (P:=Tryz.prog) (e :=.str) (x:=r) (T:=9) (news:=r.map Value.string) (v :=.slice (some ⟨w.heap.size,0,none⟩) (Lib.countB x.1 x.2+1) (Lib.countB x.1 x.2+1)) hg hb
   ⟨by rw[zg];exact(xe _).symm,.inr ⟨w.heap.size,Lib.countB x.1 x.2+1,(r.map Value.string).toArray,by rw[jH],ql _,qz w _,by omega,ze (show Lib.countB x.1 x.2+1≤4294967296 by omega) (by decide),by
    rw[qJ,zg,jH];exact(xe _).symm,by
    have e1:r.length*Ty.str.size=(r.map Value.string).length:=by rw[zg];exact xe _
    rw[e1,jl]⟩⟩
   (fun i hi=>by
    show(List.take 1 (List.drop (i*1) (r.map Value.string)))=[Value.string r[i]]
    rw[xe,xr (by rw[zg];exact hi),kA];rfl)
  exact⟨M',_,rfl,g3,g1,g2⟩
theorem uk:Has Tryz.prog Ru:=by
 refine⟨enters_of (by kernel_rfl),fun x r hr M w vs hg Q3 =>?_⟩;obtain⟨v,rfl,hv⟩:=Q3;obtain rfl:v = .string x:=Xj.1 hv;have hr:Pr x=some r:=hr;unfold Pr at hr;cases hc:decide (ByteArray.size x≤4294967280)with
 |false=>rw[hc]at hr;cases hr
 |true=>
  rw[hc,qv,qb]at hr;rw[qI]at hc;obtain⟨es,XD,VO⟩:=y55 hg (G:=2) (by simp);obtain⟨er,FP,Wj⟩:=y55 hg (G:=3) (by simp);unfold aT at hr;cases hn:Lib.atoiAll x.data.toList
  ·rename_i n;refine yT (Tryz.strconv_Atoi_ok x (by omega) n hn w) fun e w' he =>?_
   obtain⟨rfl,hw⟩:=he;have hb:Below w.heap.size w w':=by
    rcases hw with rfl|⟨t,rfl⟩
    ·exact qN _ _
    ·exact Lib.bytesWorld_below w 5 t
   rw[hn]at hr;refine⟨M,_,rfl,?_,Zu hg hb,hb,fun _ _=>rfl⟩;rw[←hr];exact⟨_,rfl,_,_,rfl,rfl,_,rfl,_,rfl,fun _=>rfl,fun h=>(by cases h)⟩
  ·refine yT (Any.strconv_Atoi_syntax Tryz.laysC172 x (by omega) hn es w XD VO) fun e w' he =>?_
   obtain⟨N,rfl,_,_,hb⟩:=he;rw[hn]at hr;refine⟨M,_,rfl,?_,Zu hg hb,hb,fun _ _=>rfl⟩;rw[←hr];exact⟨_,rfl,_,_,rfl,rfl,_,rfl,_,rfl,fun h=>(by cases h),fun _=>⟨_,_,rfl⟩⟩
  ·refine yT (Tryz.strconv_Atoi_range x (by omega) hn er w FP Wj) fun e w' he =>?_
   obtain⟨N,rfl,_,_,hb⟩:=he;rw[hn]at hr;refine⟨M,_,rfl,?_,Zu hg hb,hb,fun _ _=>rfl⟩;rw[←hr];exact⟨_,rfl,_,_,rfl,rfl,_,rfl,_,rfl,fun h=>(by cases h),fun _=>⟨_,_,rfl⟩⟩
end Go.Lift
