/-
  The contracts of Values and Sorted.
-/
import Derived.Test.YtggnjngdmadbaaaGreatDoorManA
import Derived.RangeFuncBox
import Derived.RangeFuncCalls
import Derived.RangeFuncWrites
import Derived.OwnWalkIn
import Derived.TacticsInMore
import Derived.WalkKit
import Derived.LoopIn
import Derived.Lib.SlKeysI
set_option maxRecDepth 100000
set_option linter.unusedSectionVars false
set_option linter.unusedVariables false
set_option linter.unusedSimpArgs false
namespace Go.Lift
open Go Go.Proofs Go.RowKit
attribute [local go_sem] Oper.semAt_some
theorem zy9{F:Fence}(hd:F.depth=none)(k:Nat):F.room k:=fun d h=>by rw[hd] at h;cases h
theorem zu9{F:Fence}(hd:F.depth=none){m m':Nat}{P:Program}{l:Nat}{f:FuncId}{tmps:Array Value}{assign body:Code}{w:World}{R:Ending→World→Prop}
 (h:RoundIn F m P l f tmps assign body w R):RoundIn F m' P l f tmps assign body w R:=⟨h.1,fun c cs _=>h.2 c cs (zy9 hd _)⟩
theorem zu1{F:Fence}(hd:F.depth=none){m:Nat}(m':Nat){P:Program}{l:Nat}{args:Array Value}{W:World}{R:Ending→World→Prop}(h:YieldAt F m P l args W R):YieldAt F m' P l args W R:=by
 obtain⟨fn,tmps,assign,body,hy,hR⟩:=h;exact⟨fn,tmps,assign,body,hy,zu9 hd hR⟩
theorem zkt{M:Mem}{x:List Int}{v:Value}(h:relV Tryz.prog (.slice (.int .i64)) M x v) :
  (∃p cap,v = .slice p 0 cap∧x=[])∨∃b off cap,v = .slice (some ⟨b,off,none⟩) x.length cap∧∀k (hk:k < x.length),M b (off+k)=some (.int .i64 x[k]):=by
 unfold relV z0o at h;simp only[Ty.agg,Bool.false_eq_true,if_false,relC] at h;obtain⟨v',hv,h⟩:=h;simp only[List.cons.injEq,and_true] at hv;subst hv;rcases h with⟨rfl,h0⟩|⟨b,off,cap,cells,rfl,h2,h3,h4,h5⟩|⟨a,cap,rfl,h0⟩
 ·exact .inl ⟨none,0,rfl,h0⟩
 ·refine .inr ⟨b,off,cap,rfl,fun k hk=>h4 k _ ?_⟩;have h6:(cells.drop (k*1)).take 1=[Value.int .i64 x[k]]:=h5 k hk;rw[Nat.mul_one] at h6;have h7:=congrArg (·[0]?) h6;simpa [List.getElem?_take,List.getElem?_drop] using h7
 ·exact .inl ⟨some a,cap,rfl,h0⟩
set_option maxHeartbeats 2000000 in
theorem values_in(F:Fence)(hd:F.depth=none)(hF:∀f,F.fn f)(hro:F.round=none)(nn l B:Nat)(M:Mem)(xs:List Int)(v:Value)(hv:relV Tryz.prog (.slice (.int .i64)) M xs v)(hlen:xs.length≤1000000)(mB:M B 0=some v)
  (J Jx:List Int→Mem→World→Prop) (M0:Mem) (hM:Mem.le M M0) (hJg:∀pre N W,J pre N W→Good N W)
  (hY:∀pre x N W1,J pre N W1→pre++[x] <+: xs→YieldAt F (nn-1) Tryz.prog l #[.int .i64 x] W1 fun e W'=>
   ∃N',Mem.le N N'∧((e = .returned (.bool true)∧J (pre++[x]) N' W')∨(e = .returned (.bool false)∧Jx (pre++[x]) N' W')))
  (W:World) (h0:J [] M0 W) :
  CallsIn F nn Tryz.prog 147 #[.func (.yield l) #[] #[],.pointer (some ⟨B,0,none⟩)] W fun e W'=>(∃v,e = .returned v)∧∃N',Mem.le M0 N'∧(J xs N' W'∨∃pre,pre <+: xs∧Jx pre N' W'):=by
 have hdd:∀k:Nat,(F.depth.isSome=true→1≤k):=fun k h=>by rw[hd] at h;cases h
 have hcB:∀ {N:Mem} {A:World},Mem.le M0 N→Good N A→A.cell? ⟨B,0,none⟩=some v:=fun hle hg=>hg.2 _ _ _ (hle _ _ _ (hM _ _ _ mB))
 have c0:=hcB (Mem.le_refl M0) (hJg _ _ _ h0);rcases zkt hv with⟨p,cap,rfl,rfl⟩|⟨b,off,cap,rfl,hel⟩
 ·refine callsIn_of_wp Tryz.func147 rfl (hF 147) ?_ hro;simp only[Tryz.ntmps147,List.size_toArray,qk,List.length_nil,Nat.reduceAdd,Nat.reduceSub,Array.replicate_succ,Array.replicate_zero,List.push_toArray,List.append_toArray,List.nil_append,List.cons_append];gi_wp2
  gi_loopw [7] (fun p wr=>p = .int .i64 0∧wr=W) (fun p wr=>0)
  case atStart=>exact⟨rfl,rfl⟩
  case round=>
   obtain⟨rfl,rfl⟩:=hrel;gi_wp2
   go_end0
   exact⟨⟨_,rfl⟩,M0,Mem.le_refl M0,.inl h0⟩
 ·refine callsIn_of_wp Tryz.func147 rfl (hF 147) ?_ hro;simp only[Tryz.ntmps147,List.size_toArray,qk,List.length_nil,Nat.reduceAdd,Nat.reduceSub,Array.replicate_succ,Array.replicate_zero,List.push_toArray,List.append_toArray,List.nil_append,List.cons_append];gi_wp2
  gi_loopw [7] (fun p wr=>∃k N,p = .int .i64 (k:Nat)∧k≤xs.length∧Mem.le M0 N∧J (xs.take k) N wr) (fun p wr=>(xs.length-(RowKit.intOf p).toNat))
  case atStart=>exact⟨0,M0,rfl,Nat.zero_le _,Mem.le_refl M0,by rw[List.take_zero];exact h0⟩
  case round=>
   obtain⟨k,N,rfl,hk,hle,hJ⟩:=hrel;by_cases hlt:k < xs.length
   ·have hcell:wr.cell? ⟨b,off+k,none⟩=some (.int .i64 xs[k]):=(hJg _ _ _ hJ).2 _ _ _ (hle _ _ _ (hM _ _ _ (hel k hlt)));have hlt':(k:Int) < (xs.length:Int):=by omega
    obtain⟨fn,tmps,assign,body,hy,hR⟩:=hY (xs.take k) xs[k] N wr hJ ⟨xs.drop (k+1),by simp⟩;gi_wp2_with ((try refine⟨hdd _,?_⟩);refine hR.mono ?_;clear hR;rintro e W2 ⟨N',hN',⟨rfl,hJ2⟩|⟨rfl,hx2⟩⟩)
    ·go_roundw
     case rel=>
      exact⟨k+1,N',by simp,by omega,Mem.le_trans hle hN',by rw[←List.take_append_getElem hlt];exact hJ2⟩
     case measure=>simp only[RowKit.intOf];omega
    ·refine bodyPost_ret (results_none rfl _ _ _) rfl ?_;exact⟨⟨_,rfl⟩,N',Mem.le_trans hle hN',.inr ⟨xs.take k++[xs[k]],⟨xs.drop (k+1),by simp⟩,hx2⟩⟩
   ·gi_wp2
    go_end0
    have:k=xs.length:=by omega
    subst this;rw[List.take_length] at hJ;exact⟨⟨_,rfl⟩,N,hle,.inl hJ⟩
end Go.Lift
namespace Go.Lift
open Go Go.Proofs Go.RowKit Go.Sort
attribute [local go_sem] Oper.semAt_some
def zek(M:Mem)(B:Nat)(v:Value):Mem:=fun b o=>if b=B then(if o=0 then some v else none) else M b o
theorem y5o{M:Mem}{B:Nat}{v:Value}(h:∀o,M B o=none):Mem.le M (zek M B v):=by
 intro b o u hu;unfold zek;by_cases e:b=B
 ·subst e;rw[h] at hu;cases hu
 ·rw[if_neg e];exact hu
theorem zz4{M:Mem}{w:World}{v:Value}{T:TypeId}(hg:Good M w):Good (zek M w.heap.size v) (w.alloc (.cells #[v] T))∧Grow M w (zek M w.heap.size v) (w.alloc (.cells #[v] T))∧Mem.le M (zek M w.heap.size v)∧zek M w.heap.size v w.heap.size 0=some v:=by
 have hb:Below w.heap.size w (w.alloc (.cells #[v] T)):=(Below.refl _ w).alloc (ql _) _;have hno:∀o,M w.heap.size o=none:=fun o=>z5p hg (ql _) o
 have hle:=y5o (v:=v) hno;have hg1:=z0k hg hb;refine⟨⟨Tab.keep hle (zb5.refl _) hg1.1,fun b o u hu => ?_⟩,⟨hb,fun b hlt => ?_⟩,hle,by simp[zek]⟩
 ·unfold zek at hu;split at hu
  ·rename_i e; subst e;split at hu
   ·rename_i e0; subst e0; cases hu;rw[z4g (World.alloc_heap_new w (.cells #[v] T))];rfl
   ·cases hu
  ·exact hg1.2 b o u hu
 ·funext o;unfold zek;rw[if_neg (by omega)]
theorem z1r:Has Tryz.prog z4q:=by
 refine⟨enters_of (by kernel_rfl),fun x r hr M w vs hg hvs => ?_⟩;obtain⟨v,rfl,hv⟩:=hvs;have hr:z55 x=some r:=hr;unfold z55 at hr;cases hc:decide (x.length≤1000000) with
 |false=>rw[hc] at hr;cases hr
 |true=>
 rw[hc,cond_true,qb] at hr;rw[decide_eq_true_eq] at hc;subst hr;refine(callsIn_wide (n:=3)).1 ?_;refine callsIn_of_wp Tryz.func91 rfl True.intro ?_ rfl;simp only[Tryz.ntmps91,List.size_toArray,qk,List.length_nil,Nat.reduceAdd,Nat.reduceSub,Array.replicate_succ,Array.replicate_zero,List.push_toArray,List.append_toArray,List.nil_append,List.cons_append];obtain⟨p,ln,cap,rfl⟩:∃p n cap,v = .slice p n cap:=by
  rcases zkt hv with⟨p,cap,rfl,_⟩|⟨b,off,cap,rfl,_⟩<;>exact⟨_,_,_,rfl⟩
 gi_wp2
 go_ret
 obtain⟨h1,h2,h3,h4⟩:=zz4 (v :=.slice p ln cap) (T:=41) hg;refine⟨zek M w.heap.size (.slice p ln cap),_,rfl,?_,h1,h2⟩;refine⟨147,#[.pointer (some ⟨w.heap.size,0,none⟩)],rfl,Go.Proofs.enters_of Tryz.func147 (by kernel_rfl) rfl,?_⟩;intro F n l J Jx M0 W hM hd hF hal hro hJg _ hJc hJx hY h0;exact values_in F hd hF hro n l w.heap.size (zek M w.heap.size (.slice p ln cap)) x (.slice p ln cap) (z18 h3 hv) hc h4 J Jx M0 hM hJg (fun pre y N W1 hj hp=>hY pre y N W1 _ hj hp (z1n.2 rfl)) W h0
noncomputable def y9q(xs:List Int):Option (List Int):=
 (zz8 (X:=Int) (S:=(List Int)) (R:=(List Int)) (fun t s_1=>
  (app s_1 [t]).bind fun(t_1:List Int)=>
  some (.inl t_1)) xs []).bind fun j=>match j with
 |.inl s_2=>(
  some s_2)
 |.inr r=>some r
def y9t:Ann:=(.seq .nil (.seq (.seq .nil (.blk (.loopD ⟨[⟨true,2,41,(.slice (.int .i64)),[([],some 150000200)],false⟩],[]⟩ .nil))) .nil))
theorem y9j(xs:List Int):yeg (cx [] []) Tryz.f184 y9t [.seq (.int .i64)] (.int .i64) (.int .i64) ([],xs)=y9q xs:=by kernel_rfl
theorem zsi:∀(l acc:List Int),acc.length+l.length≤4294967296→zem (X:=Int) (S:=List Int) (R:=List Int) (fun t s_1=>(app s_1 [t]).bind fun(t_1:List Int)=>some (.inl t_1)) l acc=some (.inl (acc++l))
 |[],acc,_=>by simp[zem]
 |x::l,acc,h=>by
  simp only[qk] at h;unfold zem;have:app acc [x]=some (acc++[x]):=by unfold app;rw[if_pos (by simp;omega)]
  simp only[this,qh];rw[zsi l (acc++[x]) (by simp;omega),List.append_assoc];rfl
theorem y9p{xs:List Int}(h:xs.length≤1000000):y9q xs=some xs:=by
 unfold y9q zz8;rw[if_pos ?_,zsi xs [] (by simp;omega)]
 ·rfl
 ·intro pre x s hlen _ _ h1;rw[zsi pre [] (by simp;omega)] at h1;simp only[List.nil_append,qb,Sum.inl.injEq] at h1;subst h1;exact⟨.inl (pre++[x]),by show(app pre [x]).bind _=_;unfold app;rw[if_pos (by simp;omega)];rfl⟩
theorem z25:COk Tryz.prog (cx [] []):=zvp z0x z0y z0z all_nil
theorem y2a{M:Mem}{w:World}{v:Value}{xs:List Int}(hg:Good M w)(hlen:xs.length≤1000000)(hv:relV Tryz.prog (.seq (.int .i64)) M xs v):z9l Tryz.prog 145 #[v] M w (.int .i64) xs:=by
 have hnil:relV Tryz.prog (.slice (.int .i64)) M [] (.slice none 0 0):=by
  unfold relV z0o;simp only[Ty.agg,Bool.false_eq_true,if_false];exact⟨_,rfl,.inl ⟨rfl,rfl⟩⟩
 have hc:=y65 (f:=184) (ats:=[.seq (.int .i64)]) (e0 :=.int .i64) (e :=.int .i64) z02 z25 Tryz.func184 (x:=(([]:List Int),xs)) ((y9j xs).trans (y9p hlen)) (vs:=[v]) hg ⟨_,_,rfl,hnil,_,rfl,hv⟩;unfold z9l at hc⊢;refine(callsIn_wide (n:=3)).1 ?_;obtain⟨gf,lb,hvv,_⟩:relC Tryz.prog (.seq (.int .i64)) M xs [v]:=hv;simp only[List.cons.injEq,and_true] at hvv;subst hvv;have hc2:=z7w.calls (n:=3-1) hc;refine callsIn_of_wp Tryz.func145 rfl True.intro ?_ rfl;simp only[Tryz.ntmps145,List.size_toArray,qk,List.length_nil,Nat.reduceAdd,Nat.reduceSub,Array.replicate_succ,Array.replicate_zero,List.push_toArray,List.append_toArray,List.nil_append,List.cons_append];gi_wp2_with ((try refine⟨True.intro,?_⟩);gi_at_call 184;refine hc2.mono ?_;rintro e w' ⟨M',v',rfl,hg',hgr,hv',hcase⟩)
 go_ret
 exact⟨M',v',rfl,hg',hgr,hv',hcase⟩
theorem z1s:Has Tryz.prog z4r:=by
 refine⟨enters_of (by kernel_rfl),fun x r hr M w vs hg hvs => ?_⟩;obtain⟨v,rfl,hv⟩:=hvs;have hr:z40 x=some r:=hr;unfold z40 at hr;cases hc:decide (x.length≤1000000) with
 |false=>rw[hc] at hr;cases hr
 |true=>
 rw[hc,cond_true,qb] at hr;rw[decide_eq_true_eq] at hc;subst hr;have hcl:=y2a hg hc hv;unfold z9l at hcl;have hc2:=z7w.calls (n:=3-1) hcl;obtain⟨gf,lb,hvv,_⟩:relC Tryz.prog (.seq (.int .i64)) M x [v]:=hv;simp only[List.cons.injEq,and_true] at hvv;subst hvv;refine(callsIn_wide (n:=3)).1 ?_;refine callsIn_of_wp Tryz.func90 rfl True.intro ?_ rfl;simp only[Tryz.ntmps90,List.size_toArray,qk,List.length_nil,Nat.reduceAdd,Nat.reduceSub,Array.replicate_succ,Array.replicate_zero,List.push_toArray,List.append_toArray,List.nil_append,List.cons_append];gi_wp2_with ((try refine⟨True.intro,?_⟩);gi_at_call 145;refine hc2.mono ?_;rintro e W ⟨M',v',rfl,hg',hgr,hv',hcase⟩)
 have hgW:Good M W:=z0k hg hgr.below;rcases hcase with rfl|⟨b,n,cap,rfl,hb,hblk⟩
 ·have hx:x=[]:=by
   rcases zkt hv' with⟨p,c,_,h⟩|⟨b,off,c,h,_⟩
   ·exact h
   ·cases h
  subst hx;have hs:=z7w.calls (n:=3-1) (Tryz.slices_Sort_int_none none 0 W);gi_wp2_with ((try refine⟨True.intro,?_⟩);gi_at_call 146;refine hs.mono ?_;rintro e W2 ⟨rfl,rfl⟩)
  go_ret
  exact⟨M',_,rfl,by rw[List.mergeSort_nil];exact hv',hg',hgr⟩
 ·obtain⟨cur,E,hbk,hsz,hnc,hcm,_⟩:=hblk;have hn:n=x.length∧cur.toList.take x.length=x.map encZ:=by
   rcases zkt hv' with⟨p,c,h,h0⟩|⟨b',off,c,h,hel⟩
   ·cases h;subst h0;exact⟨rfl,rfl⟩
   ·cases h;refine⟨rfl,?_⟩;apply List.ext_getElem?;intro j;by_cases hj:j < x.length
    ·have hcell:=hg'.2 _ _ _ (hel j hj);rw[Nat.zero_add,z4g hbk] at hcell;rw[List.getElem?_take_of_lt hj,Array.getElem?_toList,hcell];simp[hj]
    ·rw[List.getElem?_take_eq_none (by omega),List.getElem?_eq_none (by simp;omega)]
  obtain⟨rfl,htk⟩:=hn;have hH:=holds_of_block_i hbk htk;have hs:=z7w.calls (n:=3-1) (Tryz.slices_Sort_int b 0 cap x W hH (qd.1 hbk).1 (by omega));gi_wp2_with ((try refine⟨True.intro,?_⟩);gi_at_call 146;refine hs.mono ?_;rintro e W2 ⟨rfl,k,os,rfl⟩)
  go_ret
  have hlen:(x.mergeSort fun a b=>decide (a≤b)).length=x.length:=List.length_mergeSort x;have hown:=ownsRow_sorted_i (n:=k) (os:=os) (e:=E) hlen hb hbk hnc hcm hsz;have hbel:Go.RowKit.Below w.heap.size w (Go.Sort.grow (putRow (Value.int .i64) (Sort.ahead W k) b 0 (x.mergeSort fun a b=>decide (a≤b)).toArray) os):=
   hgr.below.grown (grownBy_sorted_i _) hgr.below.size (fun j hj=>by cases hj;exact hb)
  obtain⟨M2,g1,g2,g3⟩:=y16 (P:=Tryz.prog) (e :=.int .i64) (x:=x.mergeSort fun a b=>decide (a≤b)) hg hbel (by rw[hlen];exact hown) (fun i hi=>by
   show(List.take 1 (List.drop (i*1) ((x.mergeSort fun a b=>decide (a≤b)).map encZ)))=[Value.int .i64 (x.mergeSort fun a b=>decide (a≤b))[i]]
   rw[Nat.mul_one,List.drop_eq_getElem_cons (by rw[List.length_map];exact hi),List.getElem_map];rfl)
  exact⟨M2,_,rfl,g3,g1,g2⟩
end Go.Lift
