/-
  The contracts of the library's functions on strings and slices.
-/
import Derived.Test.YtggnjngdmadbaaaGreatDoorFunT
import Derived.Test.YtggnjngdmadbaaaGreatDoorShelf
import Derived.Lib.AppendIntMem
set_option maxRecDepth 100000
set_option linter.unusedSectionVars false
set_option linter.unusedVariables false
set_option linter.unusedSimpArgs false
namespace Go.Lift
open Go Go.Proofs Go.RowKit Go.Sort
theorem z6z:Has Tryz.prog z7q:=by
 refine⟨enters_of (by kernel_rfl),fun x r hr M w vs hg hvs => ?_⟩;obtain⟨v,rfl,hv⟩:=hvs;have hv:v = .int .i64 x:=z1n.1 hv;subst hv;have hr:strconv_Itoa x=some r:=hr;unfold strconv_Itoa at hr;cases hc:decide ((-9223372036854775808:Int)≤x)&&decide (x≤9223372036854775807) with
 |false=>rw[hc] at hr;cases hr
 |true=>
  rw[hc,cond_true,qb] at hr;rw[qg,decide_eq_true_eq,decide_eq_true_eq] at hc
  have ht : Lib.TabIs Tryz.prog w "internal/strconv.uint64pow10" .u64 Lib.pow10Tab := (hg.1.1 _ (List.mem_singleton.2 rfl)).is hg.2 (by kernel_rfl)
  refine Calls.mono (Tryz.strconv_Itoa x hc.1 hc.2 w ht) fun e w' he => ?_
  obtain⟨rfl,k,os,rfl⟩:=he;have hb:Below w.heap.size w (grow (w.drewN k) os):=Lib.below_grow _ w (ql _) k os;exact⟨M,_,rfl,by rw[←hr];exact z2s.2 rfl,z0k hg hb,hb,fun _ _=>rfl⟩
end Go.Lift
namespace Go.Proofs
open Go.Shelf Go.RowKit Go.Lib
variable {P:Program} {ρ:Ren}
set_option maxHeartbeats 2000000 in
theorem clone_at(L:SlLaysE0.n41 P ρ)(i0:TypeInfo)(z:Value)(size bytes:Nat)(hi:P.info? (ρ.t 23)=some i0)(hz0:i0.zero=some z)(hz1:i0.size=size)(hz2:i0.bytes=bytes)(hzs:z.cells.size=size)(hsz:0 < size)
  (z23:∀w,(Go.sizeOf (ρ.t 23)).run P w = .ok size w) (a:Addr) (n c:Nat) (news:List Value) (w:World) (hl:news.length=n*size) (hn:n≤maxLen) (hbig:n*bytes≤140737488355328)
  (hc:∀j u,news[j]?=some u→w.cell? (a.add j)=some u) (h1:∀u∈news,u.oneCell'=true) :
  Calls P (ρ.f 41) #[.slice (some a) n c] w fun e w'=>∃v',e = .returned v'∧w'.ownsRow w.heap.size (ρ.t 23) size v' n news∧Below w.heap.size w w':=by
 have mixed:=L.mixed;have t4:=L.t4;have a4:=L.a4;have z4:=L.z4;have v4:=L.v4;have t22:=L.t22;have a22:=L.a22;have z22:=L.z22;have v22:=L.v22;have q22:∀(w:World) (a:Option Addr) (n c n' c':Nat),(binOp .eql (ρ.t 22) (.slice a n c) (.slice none n' c')).run P w = .ok (.bool a.isNone) w:=fun w a n c n' c'=>Lib.run_eql_slice_nil w _ _ a n c n' c' L.t22
 have u22:∀w,Sem.run P (underlying (ρ.t 22)) w = .ok (TypeDesc.slice (ρ.t 23)) w:=run_underlying t22
 have A:Aside (∀j u,news[j]?=some u→w.cell? (a.add j)=some u):=hc;clear hc;obtain⟨_,_,FG⟩:=L.f41;go_enter FG,SlBodyN.n41_ntmps ρ
 go_wp2_with (at_builtin;refine wpList_append_own _ rfl _ _ (ρ.t 22) rfl w.heap.size (ρ.t 23) i0 z size bytes t22 hi hz0 hz1 hz2 hzs hsz _ _ _ rfl (World.ownsRow_made w #[] 0 (Nat.le_refl _) (Nat.zero_le _) (by simp)) a n c news rfl ?qc1 ?qc2 ?qc3 ?qc4 ?qc5 ?qc6 ?_)
 case qc1=>exact hl
 case qc2=>
  intro j u hj;exact Lib.cell?_alloc_some _ (A.out j u hj)
 case qc3=>exact h1
 case qc4=>rw[Nat.zero_add];exact hn
 case qc5=>rw[Nat.zero_add];exact hbig
 case qc6=>simp
 intro v' w1 hown hgrow hnil;go_wp2
 go_ret
 refine⟨v',rfl,by simpa using hown,?_⟩;exact((Below.refl _ w).alloc (Nat.le_refl _) _).grown hgrow (by simp) (by intro k hk;simp[Value.ownBlock] at hk;omega)
end Go.Proofs
namespace Go.Lift
open Go Go.Proofs Go.RowKit Go.Shelf
theorem zzv{ρ:Ren}(L:SlLaysE0.n41 Tryz.prog ρ){e:Ty}(hfit:fits Tryz.prog e (.inl (ρ.t 23))=true)(hpl:e.plain=true)(hpos:0 < e.size){M:Mem}{w:World}{x:List e.den}{v:Value}(hg:Good M w)(hle:x.length≤4294967296)(hv:relV Tryz.prog (.slice e) M x v) :
  z9l Tryz.prog (ρ.f 41) #[v] M w e x:=by
 obtain⟨i0,d0,hI⟩:=z0l hfit;obtain⟨z,hz,hzr,_⟩:=hI.zero hpl;have hzs:z.cells.size=e.size:=by have:=z0u e M _ _ (hzr M);simpa using this
 obtain⟨v',hv1,hv2⟩:=z41 hv;have hvv:v=v':=by
  have h:=zhg hv;rw[hv1] at h;exact h.symm
 subst hvv;have hb1:x.length*i0.bytes≤140737488355328:=by
  have:=Nat.mul_le_mul hle hI.bytes;omega
 have key:∀(a:Addr) (n cap:Nat) (news:List Value),v = .slice (some a) n cap→n=x.length→news.length=n*e.size→(∀j u,news[j]?=some u→w.cell? (a.add j)=some u)→(∀i (hi:i < x.length),relC Tryz.prog e M x[i] ((news.drop (i*e.size)).take e.size))→
   z9l Tryz.prog (ρ.f 41) #[v] M w e x:=by
  rintro a n cap news rfl rfl h1 h2 h3;refine Calls.mono (clone_at L i0 z e.size i0.bytes hI.info hz hI.size rfl hzs hpos (fun w=>z1q hI w) a x.length cap news w h1 (Nat.le_trans hle (by decide)) hb1 h2 ?_) fun e' w' he => ?_
  ·intro u hu;obtain⟨j,hj,rfl⟩:=List.getElem_of_mem hu;have hi:j / e.size < x.length:=by rw[Nat.div_lt_iff_lt_mul hpos];omega
   have hm:=Nat.mod_add_div j e.size;have hlt:=Nat.mod_lt j hpos;refine zfj e _ _ (h3 _ hi) _ (List.mem_iff_getElem?.2 ⟨j % e.size,?_⟩);rw[List.getElem?_take,if_pos hlt,List.getElem?_drop,show j / e.size*e.size+j % e.size=j by rw[Nat.mul_comm];omega,qr hj]
  ·obtain⟨v',rfl,ho,hb⟩:=he;obtain⟨M',g1,g2,g3,g4⟩:=yav (P:=Tryz.prog) (e:=e) (x:=x) hg hb ho h3;exact⟨M',v',rfl,g1,g2,g3,g4⟩
 rcases hv2 with⟨rfl,h0⟩|⟨b,off,cap,cells,rfl,h2,h3,h4,h5⟩|⟨a,cap,rfl,h0⟩
 ·subst h0;refine Calls.mono (AnyE.slices_Clone_nil L 0 0 w) fun e' w' he => ?_
  obtain⟨rfl,rfl⟩:=he;exact⟨M,_,rfl,hg,⟨Below.refl _ _,fun _ _=>rfl⟩,hv,.inl rfl⟩
 ·exact key ⟨b,off,none⟩ x.length cap cells rfl rfl h3 (fun j u hj=>by rw[Addr.add_mk];exact hg.2 _ _ _ (h4 j u hj)) h5
 ·subst h0;exact key a 0 cap [] rfl rfl (by simp) (fun j u hj=>by simp at hj) (fun i hi=>by simp at hi)
theorem y9o{α:Type}{x r:List α}(h:app [] x=some r):x.length≤4294967296∧r=x:=by
 unfold app at h;split at h
 ·rename_i hle;rw[List.nil_append,qb] at h;exact⟨by simpa using hle,h.symm⟩
 ·cases h
theorem zzw{ρ:Ren}(L:SlLaysE0.n41 Tryz.prog ρ){e:Ty}(hfit:fits Tryz.prog e (.inl (ρ.t 23))=true)(hpl:e.plain=true)(hpos:0 < e.size){f:FuncId}(hf:ρ.f 41=f)(he:zt3 Tryz.prog f=true) :
  Has Tryz.prog ⟨f,[.slice e],[.slice e],fun x=>app [] x⟩:=by
 subst hf;refine⟨enters_of he,fun x r hr M w vs hg hvs => ?_⟩;obtain⟨v,rfl,hv⟩:=hvs;obtain⟨hle,rfl⟩:=y9o hr;exact(zzv L hfit hpl hpos hg hle hv).calls
theorem y9f{ρ:Ren}(L:SlLaysE0.n41 Tryz.prog ρ){e:Ty}(hfit:fits Tryz.prog e (.inl (ρ.t 23))=true)(hpl:e.plain=true)(hpos:0 < e.size){f:FuncId}(hf:ρ.f 41=f) :
  FCo Tryz.prog ⟨f,[.slice e],[.slice e],fun x=>app [] x⟩:=by
 subst hf;intro e' x l hl M w vs hg hvs;obtain⟨v,rfl,hv⟩:=hvs;unfold Sig.listRun at hl;split at hl
 ·rename_i h;injection h with h
  injection h with h
  subst h;obtain⟨hle,rfl⟩:=y9o hl;exact zzv L hfit hpl hpos hg hle hv
 ·cases hl
theorem z08:Has Tryz.prog z3v:=zzw Tryz.laysSlE041_f187 (e :=.str) (by kernel_rfl) rfl (by decide) rfl (by kernel_rfl)
end Go.Lift
namespace Go.Lift
open Go Go.Proofs Go.RowKit
theorem y1j{M:Mem}{w:World}(hg:Good M w):∃m,w.cell? ⟨1,0,none⟩=some (.int .i64 m):=by
 obtain⟨v,h1,m,rfl⟩:=hg.1.2 (1,false) (by simp);exact⟨m,hg.2 _ _ _ h1⟩
theorem y45{M:Mem}{w:World}(hg:Good M w){G:Nat}(h:(G,true)∈[(1,false),(2,true),(3,true)]):∃v,w.cell? ⟨G,0,none⟩=some v∧(v = .nilIface∨∃t u,v = .iface t u):=by
 obtain⟨v,h1,h2⟩:=hg.1.2 (G,true) h;exact⟨v,hg.2 _ _ _ h1,h2⟩
theorem zan:Has Tryz.prog z9h:=by
 refine⟨enters_of (by kernel_rfl),fun x r hr M w vs hg hvs => ?_⟩;obtain⟨v,rest,rfl,hv,u,rfl,hu⟩:=hvs;obtain rfl:v = .string x.1:=z2s.1 hv;obtain rfl:u = .string x.2:=z2s.1 hu;have hr:zy5 x.2 x.1=some r:=hr;unfold zy5 at hr;cases hc:(x.2.size == 1)&&decide (x.1.size≤4294967280) with
 |false=>rw[hc] at hr;cases hr
 | true=>
  rw[hc,cond_true,qb] at hr;rw[qg,decide_eq_true_eq,beq_iff_eq] at hc;obtain⟨m,hm⟩:=y1j hg;refine Calls.mono (Tryz.strings_Split x.1 x.2 m w (by omega) hm (by omega)) fun e w' he => ?_
  obtain⟨rfl,rfl⟩:=he;have hlen:r.length=Lib.countB x.1 x.2+1:=by rw[←hr];exact Lib.splitB_all x.2 (by omega) 0 _ x.1 rfl
  have hle:Lib.countB x.1 x.2≤x.1.size:=Lib.countB_le x.2 (by omega) x.1.size x.1 (ql _);rw[hr];have hb:Below w.heap.size w (w.alloc (.cells (r.map Value.string).toArray 9)):=(Below.refl _ w).alloc (ql _) _;obtain⟨M',g1,g2,g3⟩:=y16 (P:=Tryz.prog) (e :=.str) (x:=r) (T:=9) (news:=r.map Value.string) (v :=.slice (some ⟨w.heap.size,0,none⟩) (Lib.countB x.1 x.2+1) (Lib.countB x.1 x.2+1)) hg hb
   ⟨by rw[List.length_map]; exact(Nat.mul_one _).symm,.inr ⟨w.heap.size,Lib.countB x.1 x.2+1,(r.map Value.string).toArray,by rw[hlen],ql _,World.alloc_heap_new w _,by omega,Nat.le_trans (show Lib.countB x.1 x.2+1≤4294967296 by omega) (by decide),by
    rw[List.size_toArray,List.length_map,hlen];exact(Nat.mul_one _).symm,by
    have e1:r.length*Ty.str.size=(r.map Value.string).length:=by rw[List.length_map];exact Nat.mul_one _
    rw[e1,List.take_length]⟩⟩
   (fun i hi=>by
    show(List.take 1 (List.drop (i*1) (r.map Value.string)))=[Value.string r[i]]
    rw[Nat.mul_one,List.drop_eq_getElem_cons (by rw[List.length_map];exact hi),List.getElem_map];rfl)
  exact⟨M',_,rfl,g3,g1,g2⟩
theorem z71:Has Tryz.prog z7r:=by
 refine⟨enters_of (by kernel_rfl),fun x r hr M w vs hg hvs => ?_⟩;obtain⟨v,rfl,hv⟩:=hvs;obtain rfl:v = .string x:=z2s.1 hv;have hr:yez x=some r:=hr;unfold yez at hr;cases hc:decide (ByteArray.size x≤4294967280) with
 |false=>rw[hc] at hr;cases hr
 | true=>
  rw[hc,cond_true,qb] at hr;rw[decide_eq_true_eq] at hc;obtain⟨es,hs1,hs2⟩:=y45 hg (G:=2) (by simp);obtain⟨er,hr1,hr2⟩:=y45 hg (G:=3) (by simp);unfold atoiN at hr;cases hn:Lib.atoiAll x.data.toList
  ·rename_i n;refine Calls.mono (Tryz.strconv_Atoi_ok x (by omega) n hn w) fun e w' he => ?_
   obtain⟨rfl,hw⟩:=he;have hb:Below w.heap.size w w':=by
    rcases hw with rfl|⟨t,rfl⟩
    ·exact Below.refl _ _
    ·exact Lib.bytesWorld_below w 5 t
   rw[hn] at hr;refine⟨M,_,rfl,?_,z0k hg hb,hb,fun _ _=>rfl⟩;rw[←hr];exact⟨_,rfl,_,_,rfl,rfl,_,rfl,_,rfl,fun _=>rfl,fun h=>(by cases h)⟩
  ·refine Calls.mono (Any.strconv_Atoi_syntax Tryz.laysC172 x (by omega) hn es w hs1 hs2) fun e w' he => ?_
   obtain⟨N,rfl,_,_,hb⟩:=he;rw[hn] at hr;refine⟨M,_,rfl,?_,z0k hg hb,hb,fun _ _=>rfl⟩;rw[←hr];exact⟨_,rfl,_,_,rfl,rfl,_,rfl,_,rfl,fun h=>(by cases h),fun _=>⟨_,_,rfl⟩⟩
  ·refine Calls.mono (Tryz.strconv_Atoi_range x (by omega) hn er w hr1 hr2) fun e w' he => ?_
   obtain⟨N,rfl,_,_,hb⟩:=he;rw[hn] at hr;refine⟨M,_,rfl,?_,z0k hg hb,hb,fun _ _=>rfl⟩;rw[←hr];exact⟨_,rfl,_,_,rfl,rfl,_,rfl,_,rfl,fun h=>(by cases h),fun _=>⟨_,_,rfl⟩⟩
end Go.Lift
