/-
  The iterator over a yard's moves; the queues of the search in memory.
-/
import Derived.Test.YtggnjngdmadbaaaGreatDoorPlM
import Derived.Test.YtggnjngdmadbaaaGreatDoorVioM
set_option maxRecDepth 100000
set_option maxHeartbeats 2000000
set_option linter.unusedSectionVars false
set_option linter.unusedVariables false
set_option linter.unusedSimpArgs false
namespace Go.Lift
open Go Go.Proofs Go.RowKit Go.Sort
theorem zcc:Has Tryz.prog zaf:=by
 refine⟨enters_of (by kernel_rfl),fun x r hr M w vs hg hvs => ?_⟩;obtain⟨v,rest,rfl,hv,u,rfl,hu⟩:=hvs;have hu:u = .string x.2:=z2s.1 hu;subst hu;have hr:strings_Join x.1 x.2=some r:=hr;unfold strings_Join at hr;cases hc:decide (x.1.length≤4294967296)&&decide ((Lib.join (x.1.map (·.data.toList)) x.2.data.toList).length≤4294967296) with
 |false=>rw[hc] at hr;cases hr
 | true=>
  rw[hc,cond_true,qb] at hr;rw[qg,decide_eq_true_eq,decide_eq_true_eq] at hc;obtain⟨v',hv1,hv2⟩:=z41 hv;have hvv:v=v':=by
   have h:=zhg hv;rw[hv1] at h;exact h.symm
  subst hvv;have none_:∀(a:Option Addr) (c:Nat),v = .slice a 0 c→x.1=[]→zdh Tryz.prog zaf.f #[v,.string x.2] M w fun M' v=>relR Tryz.prog M' [.str] r v:=by
   rintro a c rfl h0;refine Calls.mono (Any.strings_Join_none Tryz.lays156 Tryz.Builder_Extra_156 a c x.2 w) fun e w' he => ?_
   obtain⟨rfl,rfl⟩:=he;refine⟨M,_,rfl,?_,hg,Below.refl _ _,fun _ _=>rfl⟩;rw[←hr,h0];exact z2s.2 rfl
  rcases hv2 with⟨rfl,h0⟩|⟨b,off,cap,cells,rfl,h2,h3,h4,h5⟩|⟨a,cap,rfl,h0⟩
  ·exact none_ none 0 rfl h0
  ·by_cases hne:0 < x.1.length
   ·have hcell:∀(j:Nat) s,x.1[j]?=some s→w.cell? ⟨b,off+j,none⟩=some (.string s):=by
     intro j s hs;obtain⟨hj,hjs⟩:=qp.1 hs;have h6:(cells.drop (j*Ty.str.size)).take Ty.str.size=[Value.string x.1[j]]:=h5 j hj;have h7:cells[j]?=some (.string s):=by
      have h8:=congrArg (·[0]?) h6;simp only[Ty.size,Nat.mul_one,List.getElem?_take,List.getElem?_drop] at h8;rw[hjs] at h8;simpa using h8
     exact hg.2 _ _ _ (h4 j _ h7)
    have hb0:b < w.heap.size:=World.block_lt_of_cell? w _ (hcell 0 x.1[0] (qr hne));refine Calls.mono (Tryz.strings_Join b off cap x.1 x.2 w hcell hb0 (Nat.le_trans hc.1 (by decide)) h2 (Nat.le_trans hc.2 (by decide))) fun e w' he => ?_
    obtain⟨rfl,hb⟩:=he;exact⟨M,_,rfl,by rw[←hr];exact z2s.2 rfl,z0k hg hb,hb,fun _ _=>rfl⟩
   ·have h0:x.1=[]:=List.length_eq_zero_iff.1 (by omega);exact none_ (some ⟨b,off,none⟩) cap (by rw[h0];rfl) h0
  ·exact none_ (some a) cap rfl h0
end Go.Lift
namespace Go.Lift
open Go Go.Proofs Go.RowKit
attribute [local go_sem] Oper.semAt_some
def zpw(k f:Nat):List (Int×Int):=(List.range' f (k-f)).flatMap fun(a:Nat)=>(List.range k).map fun(b:Nat)=>((a:Int),(b:Int))
def zpx(k f t:Nat):List (Int×Int):=(List.range' t (k-t)).map fun(b:Nat)=>((f:Int),(b:Int))
theorem y13(k:Nat):zpw k 0=zlp k:=by unfold zpw zlp;rw[List.range_eq_range',Nat.sub_zero]
theorem y14{k f:Nat}(h:f < k):zpw k f=zpx k f 0++zpw k (f+1):=by
 unfold zpw zpx;rw[show k-f=(k-(f+1))+1 by omega,List.range'_succ,List.flatMap_cons,Nat.sub_zero,List.range_eq_range']
theorem y59{k:Nat}:zpw k k=[]:=by unfold zpw;rw[Nat.sub_self];rfl
theorem y15{k f t:Nat}(h:t < k):zpx k f t=((f:Int),(t:Int))::zpx k f (t+1):=by
 unfold zpx;rw[show k-t=(k-(t+1))+1 by omega,List.range'_succ,List.map_cons]
theorem y5b{k f:Nat}:zpx k f k=[]:=by unfold zpx;rw[Nat.sub_self];rfl
theorem zlq{y:List (List ByteArray)}:∀ {l1 l2 r:List (Int×Int)},z9o y (l1++l2)=some r→∃r1 r2,z9o y l1=some r1∧z9o y l2=some r2∧r=r1++r2
 |[],l2,r,h=>⟨[],r,rfl,h,rfl⟩
 |m::l1,l2,r,h=>by
  simp only[List.cons_append,z9o] at h;obtain⟨e,he,h⟩:=qi.1 h;obtain⟨q,hq,h⟩:=qi.1 h;obtain⟨r1,r2,a,b,c⟩:=zlq hq;simp only[qb] at h;refine⟨bif e == 0 then m::r1 else r1,r2,by simp only[z9o,he,qh,a],b,?_⟩;rw[←h,c];cases e == 0<;>rfl
theorem zwr{F:Fence}(hF:Open F)(n:Nat){M:Mem}{w:World}(hg:Good M w){y:List (List ByteArray)}{m:Int×Int}{e:Int}{yv:Value}(hy:relV Tryz.prog TYd M y yv)(h:z19 y m=some e) :
  CallsIn F n Tryz.prog 101 #[yv,.agg #[.int .i64 m.1,.int .i64 m.2]] w fun r w'=>∃M',r = .returned (.int .i64 e)∧Good M' w'∧Grow M w M' w':=
 (hF.calls (z4z.2 (y,m) e h M w [yv,.agg #[.int .i64 m.1,.int .i64 m.2]] hg ⟨_,_,rfl,hy,_,rfl,⟨#[.int .i64 m.1,.int .i64 m.2],rfl,rfl,rfl⟩⟩)).mono (by
  rintro r w' ⟨M',v,rfl,hv,hg',hgr⟩;have:v = .int .i64 e:=z1n.1 hv;exact⟨M',by rw[this],hg',hgr⟩)
theorem yb9(F:Fence)(hF:Open F)(hro:F.round=none)(nn l:Nat)(M:Mem)(y:List (List ByteArray))(xs:List (Int×Int))(hlen:y.length≤1000)(hxs:z9o y (zlp y.length)=some xs)(yv:Value)(hyv:relV Tryz.prog TYd M y yv)
    (J Jx:List (Int×Int)→Mem→World→Prop) (M0:Mem) (hM:Mem.le M M0) (hJg:∀pre N W,J pre N W→Good N W) (hJc:z6e J)
    (hY:∀pre x N W1,J pre N W1→pre++[x] <+: xs→YieldAt F (nn-1) Tryz.prog l #[vioV x] W1 fun e W'=>
      ∃N',Mem.le N N'∧((e = .returned (.bool true)∧J (pre++[x]) N' W')∨(e = .returned (.bool false)∧Jx (pre++[x]) N' W')))
    (W:World) (h0:J [] M0 W) :
    CallsIn F nn Tryz.prog 175 #[yv,.func (.yield l) #[] #[]] W fun e W'=>(∃v,e = .returned v)∧∃N',Mem.le M0 N'∧(J xs N' W'∨∃pre,pre <+: xs∧Jx pre N' W'):=by
  have hdd:∀k:Nat,(F.depth.isSome=true→1≤k):=fun k h=>by rw[hF.depth] at h;cases h
  obtain⟨ya,yc,rfl⟩:=z3s hyv;rw[←y13] at hxs;refine callsIn_of_wp Tryz.func175 rfl (hF.fn 175) ?_ hro;simp only[Tryz.ntmps175,List.size_toArray,qk,List.length_nil,Nat.reduceAdd,Nat.reduceSub,Array.replicate_succ,Array.replicate_zero,List.push_toArray,List.append_toArray,List.nil_append,List.cons_append];gi_wp2
  gi_loopw [9] (fun q wr=>∃(f:Nat) (N:Mem) (pre rest:List (Int×Int)),q = .int .i64 (f:Int)∧f≤y.length∧Mem.le M0 N∧J pre N wr∧pre++rest=xs∧z9o y (zpw y.length f)=some rest) (fun q wr=>(y.length-(RowKit.intOf q).toNat))
  case atStart=>exact⟨0,M0,[],xs,rfl,Nat.zero_le _,Mem.le_refl M0,h0,rfl,hxs⟩
  case round=>
    obtain⟨f,N,pre,rest,rfl,hf,hle,hJ,hpx,hv⟩:=hrel;by_cases hlt:f < y.length
    · rw [y14 hlt] at hv
      obtain⟨r1,r2,hv1,hv2,rfl⟩:=zlq hv;gi_wp2
      gi_loopw [14] (fun q wr=>∃(t:Nat) (N:Mem) (pre rest:List (Int×Int)),q = .int .i64 (t:Int)∧t≤y.length∧Mem.le M0 N∧J pre N wr∧pre++(rest++r2)=xs∧z9o y (zpx y.length f t)=some rest) (fun q wr=>(y.length-(RowKit.intOf q).toNat))
      case atStart=>exact⟨0,N,pre,r1,rfl,Nat.zero_le _,hle,hJ,hpx,hv1⟩
      case round=>
        clear hJ hpx hle hv hv1;obtain⟨t,N,pre,rest,rfl,ht,hle,hJ,hpx,hv⟩:=hrel;have hg:=hJg _ _ _ hJ;by_cases htl:t < y.length
        · rw [y15 htl] at hv
          simp only[z9o] at hv;obtain⟨e,he,hv⟩:=qi.1 hv;obtain⟨rest',hrest',hv⟩:=qi.1 hv;simp only[qb] at hv;obtain⟨wa,hwa⟩:∃wa,wr.alloc (.cells #[.int .i64 (f:Int),.int .i64 (t:Int)] 63)=wa:=⟨_,rfl⟩
          have hBa:Below wr.heap.size wr wa:=by rw[←hwa];exact(Below.refl _ wr).alloc (ql _) _
          have hga:Good N wa:=z0k hg hBa;have hca:=World.alloc_heap_new wr (.cells #[.int .i64 (f:Int),.int .i64 (t:Int)] 63);rw[hwa] at hca;have ka0:wa.cell? ⟨wr.heap.size,0,none⟩=some (.int .i64 (f:Int)):=z06 hca rfl;have ka1:wa.cell? ⟨wr.heap.size,1,none⟩=some (.int .i64 (t:Int)):=z06 hca rfl;have hza:wa.heap.size=wr.heap.size+1:=by rw[←hwa,World.size_alloc]
          have cc:=zwr hF (nn-1) hga (m:=((f:Int),(t:Int))) (z18 (Mem.le_trans hM hle) hyv) he;have cells:∀(M2:Mem) (w2:World),Good M2 w2→Grow N wa M2 w2→w2.cell? ⟨wr.heap.size,0,none⟩=some (.int .i64 (f:Int))∧w2.cell? ⟨wr.heap.size,1,none⟩=some (.int .i64 (t:Int))∧J pre M2 w2∧Mem.le M0 M2:=fun M2 w2 hg2 hgr2=>by
            have h1:=(hgr2.below.block _ (by omega)).trans hca;have hB2:Below wr.heap.size wr w2:=hBa.trans ⟨hgr2.below.os,hgr2.below.tape,hgr2.below.output,hgr2.below.size,fun j hj=>hgr2.below.block j (by omega)⟩;exact⟨z06 h1 rfl,z06 h1 rfl,hJc _ _ _ _ _ hJ hg2 ⟨hB2,fun b hb=>hgr2.mem b (by omega)⟩,Mem.le_trans hle (z12 (G:=[]) hga hgr2).le⟩
          by_cases h00:e=0
          · subst h00
            rw[show((0:Int) == 0)=true from rfl,cond_true] at hv;subst hv;have hpr:pre++[((f:Int),(t:Int))] <+: xs:=⟨rest'++r2,by rw[←hpx];simp⟩
            have hYk:=fun M2 w2 hj=>hY pre ((f:Int),(t:Int)) M2 w2 hj hpr
            unfold vioV at hYk;gi_wp2_with (first
              |((try refine⟨hF.fn _,?_⟩);(try refine⟨hdd _,?_⟩);gi_at_call 101;refine cc.mono ?_;clear cc;rintro e w2 ⟨M2,rfl,hg2,hgr2⟩;obtain⟨k0,k1,hJ2,hle2⟩:=cells M2 w2 hg2 hgr2;clear cells;obtain⟨fn,tmps,assign,body,hy,hR⟩:=hYk M2 w2 hJ2;clear hYk)
              |((try refine⟨hdd _,?_⟩);refine hR.mono ?_;clear hR;rintro e W2 ⟨N',hN',⟨rfl,hJ3⟩|⟨rfl,hx3⟩⟩))
            · exact⟨⟨t+1,N',pre++[((f:Int),(t:Int))],rest',by simp,by omega,Mem.le_trans hle2 hN',hJ3,by rw[←hpx];simp,hrest'⟩,by simp only[RowKit.intOf];omega⟩
            · refine bodyPost_ret (results_none rfl _ _ _) rfl ?_
              exact⟨⟨_,rfl⟩,N',Mem.le_trans hle2 hN',.inr ⟨_,hpr,hx3⟩⟩
          · have hne:(e == 0)=false:=by rw[beq_eq_false_iff_ne]; exact h00
            rw[hne,cond_false] at hv;subst hv;have hng:∀(f:FuncId),none=some f→F.fn f:=fun _ h=>by cases h
            gi_wp2_with (first
              |((try refine⟨hF.fn _,?_⟩);(try refine⟨hdd _,?_⟩);gi_at_call 101;refine cc.mono ?_;clear cc;rintro e w2 ⟨M2,rfl,hg2,hgr2⟩;obtain⟨k0,k1,hJ2,hle2⟩:=cells M2 w2 hg2 hgr2;clear cells)
              |(with_reducible refine⟨hng,?_⟩))
            exact⟨⟨t+1,M2,pre,rest',by simp,by omega,hle2,hJ2,hpx,hrest'⟩,by simp only[RowKit.intOf];omega⟩
        · obtain rfl:t=y.length:=by omega
          rw[y5b] at hv;simp only[z9o,qb] at hv;subst hv;gi_wp2
          refine⟨⟨f+1,N,pre,r2,by simp,by omega,hle,hJ,by simpa using hpx,hv2⟩,by simp only[RowKit.intOf];omega⟩
    · obtain rfl:f=y.length:=by omega
      rw[y59] at hv;simp only[z9o,qb] at hv;subst hv;gi_wp2
      go_end0
      rw[List.append_nil] at hpx;subst hpx;exact⟨⟨_,rfl⟩,N,hle,.inl hJ⟩
end Go.Lift
namespace Go.Lift
open Go Go.Proofs Go.RowKit
def IMap(l:List (Int×Value))(es:Array MapEntry):Prop:=es.toList.map (fun e=>(e.key,e.val))=l.map fun p=>(Value.int .i64 p.1,p.2)
def iget(l:List (Int×Value))(j:Int):Value:=match l.find? fun p=>p.1 == j with
 |some p=>p.2
 |none =>.slice none 0 0
def iput:List (Int×Value)→Int→Value→List (Int×Value)
 |[],j,v=>[(j,v)]
 |p::l,j,v=>bif p.1 == j then(j,v)::l else p::iput l j v
theorem zxb{d:TypeDesc}(hd:d = .int .i64)(j:Int):∀(es:List MapEntry) (l:List (Int×Value)) (i:Nat),es.map (fun e=>(e.key,e.val))=l.map (fun p=>(Value.int .i64 p.1,p.2))→
  (Instr.findNow d (.int .i64 j) es i=some none∧(l.find? fun p=>p.1 == j)=none∧∀v,iput l j v=l++[(j,v)])∨
  ∃n pre p post,Instr.findNow d (.int .i64 j) es i=some (some (i+n,p.2))∧l=pre++p::post∧pre.length=n∧p.1=j∧(l.find? fun p=>p.1 == j)=some p∧∀v,iput l j v=pre++(j,v)::post
 |[],[],_,_ =>.inl ⟨rfl,rfl,fun _=>rfl⟩
 |[],_::_,_,h=>by cases h
 |_::_,[],_,h=>by cases h
 | e::es,p::l,i,h=>by
  simp only[List.map_cons,List.cons.injEq,Prod.mk.injEq] at h;obtain⟨⟨h1,h2⟩,h3⟩:=h;subst hd;have hk:∀x:Int,MapKept.IsKey (.int .i64) (.int .i64 x):=fun x=>rfl
  have hke:MapKept.IsKey (.int .i64) e.key:=by rw[h1];exact hk p.1
  obtain⟨r,hr,hiff⟩:=MapKept.sameNow_of_keys (hk j) hke;rw[h1] at hiff;cases r with
  |true=>
   have hq:p.1=j:=by have:=hiff.1 rfl;injection this with _ e;exact e.symm
   have hb:(p.1 == j)=true:=by rw[beq_iff_eq];exact hq
   refine .inr ⟨0,[],p,l,?_,rfl,rfl,hq,by simp only[List.find?_cons,hb],fun v=>by simp only[iput,hb,cond_true,List.nil_append]⟩;simp[Instr.findNow,hr,h2]
  | false=>
   have hb:(p.1 == j)=false:=by
    rw[beq_eq_false_iff_ne];intro e;exact absurd (hiff.2 (by rw[e])) (by decide)
   rcases zxb rfl j es l (i+1) h3 with⟨g1,g2,g3⟩|⟨n,pre,p',post,g1,g2,g3,g4,g5,g6⟩
   ·refine .inl ⟨by simp[Instr.findNow,hr,g1],by simp only[List.find?_cons,hb,g2],fun v=>by simp only[iput,hb,cond_false,g3,List.cons_append]⟩
   ·refine .inr ⟨n+1,p::pre,p',post,?_,by rw[g2]; rfl,by simp[g3],g4,by simp only[List.find?_cons,hb,g5],fun v=>by simp only[iput,hb,cond_false,g6,List.cons_append]⟩;simp[Instr.findNow,hr,g1];omega
theorem y2t:Tryz.prog.underlying 229=some (.map 3 231):=by kernel_rfl
theorem und3:Tryz.prog.underlying 3=some (.int .i64):=by kernel_rfl
theorem yd5(w:World):(zeroValue 231).run Tryz.prog w = .ok (.slice none 0 0) w:=by
 obtain⟨i,d,hi⟩:=z0l (show fits Tryz.prog (.slice z0b) (.inl 231)=true by kernel_rfl);obtain⟨z,hz,hz1,_⟩:=hi.zero (by rfl);have hz2:=hz1 (fun _ _=>none);obtain⟨v,hv,h2⟩:relC Tryz.prog (.slice z0b) (fun _ _=>none) [] z.cells.toList:=hz2;have hzv:z = .slice none 0 0:=by
  have hzz:(Tryz.prog.info? 231).bind (·.zero)=some (.slice none 0 0):=by kernel_rfl
  rw[hi.info,qh,hz] at hzz;exact Option.some.inj hzz
 subst hzv;simp only[zeroValue,typeInfo,program,Sem.run_bind,Sem.run,Result.andThen_ok,hi.info,hz,Sem.run_pure]
theorem zm4{w:World}{g:Nat}{es:Array MapEntry}{cl:Nat}{l:List (Int×Value)}(hb:w.heap[g]?=some (.map es cl))(hl:IMap l es)(j:Int):(Instr.lookup 229 (.map (some g)) (.int .i64 j) false).run Tryz.prog w = .ok (iget l j) w:=by
 have hck:=MapKept.run_checkKey (P:=Tryz.prog) (w:=w) und3 (k :=.int .i64 j) rfl es.isEmpty 9999;rcases zxb (d :=.int .i64) rfl j es.toList l 0 hl with⟨g1,g2,_⟩|⟨n,pre,p,post,g1,g2,g3,g4,g5,_⟩
 ·have hfind:=MapKept.run_findKey (P:=Tryz.prog) (w:=w) und3 g1;have hm:iget l j = .slice none 0 0:=by unfold iget;rw[g2]
  rw[hm];simp only[Instr.lookup,Sem.run_bind,run_underlying y2t,Result.andThen_ok,MapKept.run_getObj_map hb,Sem.run_pure,hck,hfind,yd5];rfl
 ·have hfind:=MapKept.run_findKey (P:=Tryz.prog) (w:=w) und3 g1;have hm:iget l j=p.2:=by unfold iget;rw[g5]
  rw[hm];simp only[Instr.lookup,Sem.run_bind,run_underlying y2t,Result.andThen_ok,MapKept.run_getObj_map hb,Sem.run_pure,hck,hfind];rfl
theorem yai{w:World}{g:Nat}{es:Array MapEntry}{cl:Nat}{l:List (Int×Value)}(hb:w.heap[g]?=some (.map es cl))(hl:IMap l es)(j:Int)(v:Value):∃es' cl',(Instr.mapUpdate 229 (.map (some g)) (.int .i64 j) v).run Tryz.prog w = .ok () {w with heap:=w.heap.setIfInBounds g (.map es' cl')}∧IMap (iput l j v) es':=by
 have hck:=MapKept.run_checkKey (P:=Tryz.prog) (w:=w) und3 (k :=.int .i64 j) rfl false 9999;rcases zxb (d :=.int .i64) rfl j es.toList l 0 hl with⟨g1,g2,gp⟩|⟨n,pre,p,post,g1,g2,g3,g4,g5,gp⟩
 ·have hfind:=MapKept.run_findKey (P:=Tryz.prog) (w:=w) und3 g1;refine⟨es.push {key :=.int .i64 j,val:=v,born:=cl},cl+1,?_,?_⟩
  ·simp only[Instr.mapUpdate,Sem.run_bind,run_underlying y2t,Result.andThen_ok,MapKept.run_getObj_map hb,hck,hfind,MapKept.run_setObj_map _ hb,Sem.run_pure]
  ·rw[gp];unfold IMap at hl⊢;rw[Array.toList_push,List.map_append,List.map_append,hl];rfl
 ·have hfind:=MapKept.run_findKey (P:=Tryz.prog) (w:=w) und3 g1;unfold IMap at hl;rw[g2,List.map_append,List.map_cons] at hl;obtain⟨A,B,hAB,hA,hB⟩:=List.map_eq_append_iff.1 hl;obtain⟨e,B',rfl,he,hB'⟩:=List.map_eq_cons_iff.1 hB;have hlen:A.length=n:=by
   have:=congrArg List.length hA;simp only[List.length_map] at this;omega
  have hget:es[n]?=some e:=by
   rw[←Array.getElem?_toList,hAB,List.getElem?_append_right (by omega),hlen,Nat.sub_self];rfl
  simp only[Prod.mk.injEq] at he;refine⟨es.modify n fun e=>{e with key :=.int .i64 j,val:=v},cl,?_,?_⟩
  ·rw[Nat.zero_add] at hfind;have hsame:Instr.sameBits 10000 (.int .i64 j) (.int .i64 j)=true:=zri (k :=.int .i64) rfl j 10000;simp only[Instr.mapUpdate,Sem.run_bind,run_underlying y2t,Result.andThen_ok,MapKept.run_getObj_map hb,hck,hfind,hget,Option.map_some,Option.getD_some,he.1,g4,Instr.keyThatStays,zri (k :=.int .i64) rfl,MapKept.run_setObj_map _ hb,Sem.run_pure];rw[if_pos hsame,Sem.run_pure,Result.andThen_ok,MapKept.run_setObj_map _ hb]
  ·rw[gp];unfold IMap;rw[Array.toList_modify,hAB,←hlen,zp3,List.map_append,List.map_cons,hA,hB',List.map_append,List.map_cons]
theorem zjh{j:Int}{v:Value}:∀ {l:List (Int×Value)} (k:Int),iget (iput l k v) j=if j=k then v else iget l j
 |[],k=>by
  unfold iget iput;by_cases h:j=k
  ·subst h;simp
  ·simp[h,Ne.symm h]
 | p::l,k=>by
  have ih:=zjh (j:=j) (v:=v) (l:=l) k;unfold iput;by_cases hp:p.1=k
  ·have hb:(p.1 == k)=true:=by rw[beq_iff_eq]; exact hp
   rw[hb,cond_true];unfold iget;by_cases h:j=k
   ·subst h;simp
   ·have h1:(k == j)=false:=by rw[beq_eq_false_iff_ne]; exact Ne.symm h
    have h2:(p.1 == j)=false:=by rw[hp];exact h1
    simp only[List.find?_cons,h1,h2,if_neg h]
  ·have hb:(p.1 == k)=false:=by rw[beq_eq_false_iff_ne]; exact hp
   rw[hb,cond_false];unfold iget at ih⊢;by_cases h:p.1=j
   ·have h1:(p.1 == j)=true:=by rw[beq_iff_eq]; exact h
    have h2:j≠k:=fun e=>hp (by rw[h,e])
    simp only[List.find?_cons,h1,if_neg h2]
   ·have h1:(p.1 == j)=false:=by rw[beq_eq_false_iff_ne]; exact h
    simp only[List.find?_cons,h1];exact ih
theorem zwx{ps:PutL}{k j:Int}{t:z2w}:z36 (ps++[(k,t)]) j=z36 ps j++(if k=j then[t] else[]):=by
 unfold z36;rw[List.filter_append,List.map_append];by_cases h:k=j
 ·subst h;simp
 ·simp[h]
theorem zpz{ps:PutL}{k:Int}{t:z2w}:zcp (ps++[(k,t)])=max (zcp ps) k:=by
 unfold zcp;rw[List.foldl_append];rfl
def zb6(M:Mem)(ns:List z2w)(cells:List Value):Prop:=cells.length=ns.length*4∧∀i (hi:i < ns.length),relC Tryz.prog z0b M ns[i] ((cells.drop (i*4)).take 4)
theorem zb6.mono{M M':Mem}(hM:Mem.le M M'){ns:List z2w}{cells:List Value}(h:zb6 M ns cells):zb6 M' ns cells:=⟨h.1,fun i hi=>z4s z0b hM _ _ (h.2 i hi)⟩
theorem zb6.snoc{M:Mem}{ns:List z2w}{cells cs:List Value}{n:z2w}(h:zb6 M ns cells)(hn:relC Tryz.prog z0b M n cs):zb6 M (ns++[n]) (cells++cs):=by
 have hl:=h.1;have hc:cs.length=4:=z0u z0b M n cs hn;refine⟨by rw[qe,qe,qj];omega,fun i hi => ?_⟩;rw[qe,qj] at hi;by_cases hlt:i < ns.length
 ·rw[List.getElem_append_left hlt,List.drop_append_of_le_length (by omega),List.take_append_of_le_length (by rw[List.length_drop]; omega)];exact h.2 i hlt
 ·have:i=ns.length:=by omega
  subst this;rw[List.getElem_append_right (ql _),List.drop_append,List.drop_of_length_le (by omega),show ns.length*4-cells.length=0 by omega];simp only[Nat.sub_self,List.getElem_cons_zero,List.drop_zero,List.nil_append];rw[List.take_of_length_le (by omega)];exact hn
structure QAt (B gm:Nat) (ps:PutL) (M:Mem) (W:World) (l:List (Int×Value)):Prop where
 map:∃es cl,W.heap[gm]?=some (.map es cl)∧IMap l es
 row:∀k,∃cells,W.ownsRow B 184 4 (iget l k) (z36 ps k).length cells∧zb6 M (z36 ps k) cells
 apart:∀k k',k≠k'→(iget l k).ownBlock=none∨(iget l k).ownBlock≠(iget l k').ownBlock
 mem:∀k b o,(iget l k).ownBlock=some b→M b o=none
theorem QAt.kept{B gm:Nat}{ps:PutL}{M M':Mem}{W W':World}{l:List (Int×Value)}(h:QAt B gm ps M W l)(hb:Below W.heap.size W W')(hle:Mem.le M M')(hm:∀b,b < W.heap.size→M' b=M b):QAt B gm ps M' W' l:=by
 have hne:∀x:Value,x.ownBlock=none∨x.ownBlock≠none:=fun x=>by cases x.ownBlock<;>simp
 obtain⟨es,cl,h1,h2⟩:=h.map;refine⟨⟨es,cl,(hb.block gm (qd.1 h1).1).trans h1,h2⟩,fun k => ?_,h.apart,fun k b o hk => ?_⟩
 ·obtain⟨cells,a1,a2⟩:=h.row k;exact⟨cells,a1.kept (below_grown hb) (hne _),a2.mono hle⟩
 ·obtain⟨cells,a1,a2⟩:=h.row k;rw[hm b (a1.lt b hk).2];exact h.mem k b o hk
theorem QAt.other{B gm g:Nat}{ps:PutL}{M:Mem}{W W':World}{l:List (Int×Value)}{cur:Array Value}{E:TypeId}(h:QAt B gm ps M W l)(hg:W.heap[g]?=some (.cells cur E (0,0)))(hE:E≠184∨∀k,(iget l k).ownBlock≠some g)(hw:W.grownBy W' (some g)):QAt B gm ps M W' l:=by
 obtain⟨es,cl,h1,h2⟩:=h.map;have hgm:gm≠g:=fun e=>by rw[e,hg] at h1;cases h1
 refine⟨⟨es,cl,(hw.block gm (qd.1 h1).1 (by simpa using hgm)).trans h1,h2⟩,fun k => ?_,h.apart,h.mem⟩;obtain⟨cells,a1,a2⟩:=h.row k;refine⟨cells,a1.kept hw ?_,a2⟩;rcases hE with hE|hE
 ·exact zc2 hg (Ne.symm hE) a1
 ·exact .inr (hE k)
theorem QAt.push{B gm:Nat}{ps:PutL}{M:Mem}{W Wa W':World}{l:List (Int×Value)}{k:Int}{t:z2w}{v':Value}{cells cs:List Value}{es':Array MapEntry}{cl':Nat}(h:QAt B gm ps M W l)(hc:zb6 M (z36 ps k) cells)(hg:W.grownBy Wa (iget l k).ownBlock)(ho:Wa.ownsRow B 184 4 v' ((z36 ps k).length+1) (cells++cs))(hat:v'.ownBlock=(iget l k).ownBlock∨∃b,v'.ownBlock=some b∧W.heap.size≤b)(hM:∀b o,W.heap.size≤b→M b o=none)(ht:relC Tryz.prog z0b M t cs)
  (hw1:W'.heap[gm]?=some (.map es' cl')) (hw2:∀j,j≠gm→W'.heap[j]?=Wa.heap[j]?) (hi:IMap (iput l k v') es'):QAt B gm (ps++[(k,t)]) M W' (iput l k v'):=by
 obtain⟨es,cl,h1,_⟩:=h.map;have hmv:∀(r:Value) (n:Nat) (xs:List Value),Wa.ownsRow B 184 4 r n xs→(∀b,r.ownBlock=some b→b≠gm)→W'.ownsRow B 184 4 r n xs:=fun r n xs hr hb=>by
  refine⟨hr.1,?_⟩;rcases hr.2 with h0|⟨g,cap,cur,rfl,a1,a2,a3⟩
  ·exact .inl h0
  ·exact .inr ⟨g,cap,cur,rfl,a1,(hw2 g (hb g rfl)).trans a2,a3⟩
 have hgmW:gm < W.heap.size:=(qd.1 h1).1;have hrow:∀j,∀b,(iget l j).ownBlock=some b→b≠gm∧b < W.heap.size:=fun j b hb=>by
  obtain⟨c2,a1,_⟩:=h.row j;refine⟨fun e => ?_,(a1.lt b hb).2⟩;rcases a1.2 with⟨e0,_⟩|⟨g,cap,cur,e0,_,a2,_⟩
  ·rw[e0] at hb;cases hb
  ·rw[e0] at hb;simp only[Value.ownBlock,qb] at hb;subst hb;rw[e,h1] at a2;cases a2
 refine⟨⟨es',cl',hw1,hi⟩,fun j => ?_,fun j j' hne => ?_,fun j b o hb => ?_⟩
 ·rw[zjh,zwx];by_cases hj:j=k
  ·subst hj;rw[if_pos rfl,if_pos rfl,qe,qj];refine⟨cells++cs,hmv _ _ _ ho fun b hb => ?_,hc.snoc ht⟩;rcases hat with e|⟨b',e,hb'⟩
   ·exact(hrow j b (by rw[←e];exact hb)).1
   ·rw[e] at hb;cases hb;omega
  ·rw[if_neg hj,if_neg (Ne.symm hj),List.append_nil];obtain⟨c2,a1,a2⟩:=h.row j;exact⟨c2,hmv _ _ _ (a1.kept hg (h.apart j k hj)) fun b hb=>(hrow j b hb).1,a2⟩
 ·rw [zjh,zjh];have key:∀i,i≠k→(iget l i).ownBlock=none∨(iget l i).ownBlock≠v'.ownBlock:=fun i hi=>by
   rcases hat with e|⟨b',e,hb'⟩
   ·rw[e];exact h.apart i k hi
   ·cases hb:(iget l i).ownBlock with
    |none=>exact .inl rfl
    |some b=>
     refine .inr fun e2 => ?_
     rw[e] at e2;injection e2 with e2
     have:=(hrow i b hb).2;omega
  by_cases hj:j=k
  ·rw[if_pos hj];have hj':j'≠k:=fun e=>hne (by rw[hj,e])
   rw[if_neg hj'];rcases key j' hj' with e|e
   ·rw[e];cases v'.ownBlock<;>simp
   ·exact .inr (Ne.symm e)
  ·rw[if_neg hj];by_cases hj':j'=k
   ·rw[if_pos hj'];exact key j hj
   ·rw[if_neg hj'];exact h.apart j j' hne
 ·rw[zjh] at hb;by_cases hj:j=k
  ·rw[if_pos hj] at hb;rcases hat with e|⟨b',e,hb'⟩
   ·rw[e] at hb;exact h.mem k b o hb
   ·rw[e] at hb;cases hb;exact hM b o hb'
  ·rw[if_neg hj] at hb;exact h.mem j b o hb
structure PSt (w:World) (M:Mem) (bq gm b8 gd:Nat) (ps:PutL) (done:List ByteArray) (l:List (Int×Value)) (M':Mem) (W:World):Prop where
 g0:Good M w
 good:Good M' W
 le:Mem.le M M'
 mem:∀b,b < w.heap.size→M' b=M b
 below:Below w.heap.size w W
 cq:W.heap[bq]?=some (.cells #[.map (some gm)] 229 (0,0))
 c8:W.heap[b8]?=some (.cells #[.int .i64 (zcp ps)] 3 (0,0))
 cd:∃es cl,W.heap[gd]?=some (.map es cl)∧z6i .str .bool (done.reverse.map fun s=>(s,true)) es
 qs:QAt w.heap.size gm ps M' W l
 m8:∀o,M' b8 o=none
 n8:w.heap.size≤b8
 nm:w.heap.size≤gm
 ne:gm≠gd
theorem PSt.kept{w:World}{M:Mem}{bq gm b8 gd:Nat}{ps:PutL}{done:List ByteArray}{l:List (Int×Value)}{M' M2:Mem}{W W2:World}(h:PSt w M bq gm b8 gd ps done l M' W)(hg:Good M2 W2)(hgr:Grow M' W M2 W2)(hle:Mem.le M' M2):PSt w M bq gm b8 gd ps done l M2 W2:=by
 obtain⟨es,cl,d1,d2⟩:=h.cd;have hq:=h.qs;have l8:=(qd.1 h.c8).1;exact⟨h.g0,hg,Mem.le_trans h.le hle,fun b hb=>by rw[hgr.mem b (by have:=h.below.size;omega)];exact h.mem b hb,h.below.trans ⟨hgr.below.os,hgr.below.tape,hgr.below.output,hgr.below.size,fun j hj=>hgr.below.block j (Nat.lt_of_lt_of_le hj h.below.size)⟩,
  (hgr.below.block _ (qd.1 h.cq).1).trans h.cq,(hgr.below.block _ l8).trans h.c8,⟨es,cl,(hgr.below.block _ (qd.1 d1).1).trans d1,d2⟩,hq.kept hgr.below hle hgr.mem,fun o=>by rw[hgr.mem _ l8];exact h.m8 o,h.n8,h.nm,h.ne⟩
theorem zjo{w W:World}{M M':Mem}(g0:Good M w)(hle:Mem.le M M')(hb:Below w.heap.size w W)(hc:∀b o v,M' b o=some v→W.cell? ⟨b,o,none⟩=some v):Good M' W:=
 ⟨Tab.keep (w:=w) hle (fun j c t fr h=>⟨c,fr,by rw[hb.block j (qd.1 h).1];exact h,rfl⟩) g0.1,hc⟩
theorem PSt.push{w:World}{M:Mem}{bq gm b8 gd:Nat}{ps:PutL}{done:List ByteArray}{l:List (Int×Value)}{M4:Mem}{W4 Wx Wz:World}{lvl:Int}{t:z2w}{v':Value}{cells cs:List Value}{es':Array MapEntry}{cl':Nat}(h:PSt w M bq gm b8 gd ps done l M4 W4)(r2:zb6 M4 (z36 ps lvl) cells)(hJ:W4.drew.grownBy Wx (iget l lvl).ownBlock)
  (hv:Wx.ownsRow w.heap.size 184 4 v' ((z36 ps lvl).length+1) (cells++cs)) (hat:v'.ownBlock=(iget l lvl).ownBlock∨∃b,v'.ownBlock=some b∧W4.heap.size≤b) (ht:relC Tryz.prog z0b M4 t cs) (hi:IMap (iput l lvl v') es') (hWz:Wz={Wx with heap:=Wx.heap.setIfInBounds gm (.map es' cl')}) :
  Wz.heap[b8]?=some (.cells #[.int .i64 (zcp ps)] 3 (0,0))∧PSt w M bq gm b8 gd (ps++[(lvl,t)]) done (iput l lvl v') M4 (Wz.setCell ⟨b8,0,none⟩ (.int .i64 (zcp (ps++[(lvl,t)])))):=by
 have hq:=h.qs;obtain⟨es,cl,q1,q2⟩:=hq.map;obtain⟨cells0,r1,_⟩:=hq.row lvl;have lgm:gm < W4.heap.size:=(qd.1 q1).1;have qm:some gm≠(iget l lvl).ownBlock:=fun e=>by
  rcases r1.2 with⟨e0,_⟩|⟨g,cap,cur,e0,_,e1,_⟩
  ·rw[e0] at e;cases e
  ·rw[e0] at e;simp only[Value.ownBlock,qb] at e;rw[←e,q1] at e1;cases e1
 have qn:∀(k:Nat) (cur:Array Value) (E:TypeId),W4.heap[k]?=some (.cells cur E (0,0))→E≠184→some k≠(iget l lvl).ownBlock:=fun k cur E hk hE e=>by
  rcases zc2 hk (Ne.symm hE) r1 with e2|e2
  ·rw[e2] at e;cases e
  ·exact e2 e.symm
 have qx:Wx.heap[gm]?=some (.map es cl):=(hJ.block _ lgm qm).trans q1;have z1:Wz.heap[gm]?=some (.map es' cl'):=by rw[hWz];exact(MapKept.heap_set (w:=Wx) qx).1
 have z2:∀k,k≠gm→Wz.heap[k]?=Wx.heap[k]?:=fun k hk=>by rw[hWz];exact(MapKept.heap_set (w:=Wx) qx).2 k hk
 have zs:Wz.heap.size=Wx.heap.size:=by rw[hWz];simp
 have other:∀k,k < W4.heap.size→k≠gm→some k≠(iget l lvl).ownBlock→Wz.heap[k]?=W4.heap[k]?:=fun k hk h1 h2=>(z2 k h1).trans (hJ.block k hk h2)
 have n8:b8≠gm:=fun e=>by rw[←e,h.c8] at q1;cases q1
 have nq:bq≠gm:=fun e=>by rw[←e,h.cq] at q1;cases q1
 have l8:=(qd.1 h.c8).1;have lq:=(qd.1 h.cq).1;have c8:Wz.heap[b8]?=some (.cells #[.int .i64 (zcp ps)] 3 (0,0)):=(other b8 l8 n8 (qn _ _ _ h.c8 (by decide))).trans h.c8;have cq:Wz.heap[bq]?=some (.cells #[.map (some gm)] 229 (0,0)):=(other bq lq nq (qn _ _ _ h.cq (by decide))).trans h.cq;obtain⟨W5,hW5⟩:∃W5,Wz.setCell ⟨b8,0,none⟩ (.int .i64 (zcp (ps++[(lvl,t)])))=W5:=⟨_,rfl⟩
 have g5:Wz.grownBy W5 (some b8):=by rw[←hW5];exact z6n
 have c85:W5.heap[b8]?=some (.cells #[.int .i64 (zcp (ps++[(lvl,t)]))] 3 (0,0)):=by rw[←hW5];exact za1 c8
 have other5:∀k,k < W4.heap.size→k≠gm→k≠b8→some k≠(iget l lvl).ownBlock→W5.heap[k]?=W4.heap[k]?:=fun k hk h1 h2 h3=>(g5.block k (by have a1:W4.heap.size≤Wx.heap.size:=hJ.size;omega) (by simpa using h2)).trans (other k hk h1 h3)
 have hws:=h.below.size;have hBw:Below w.heap.size w W5:=by
  refine⟨?_,?_,?_,?_,fun k hk => ?_⟩
  ·rw[g5.os,hWz];exact hJ.os.trans h.below.os
  ·rw[g5.tape,hWz];exact hJ.tape.trans h.below.tape
  ·rw[g5.output,hWz];exact hJ.output.trans h.below.output
  ·have a1:W4.heap.size≤Wx.heap.size:=hJ.size;have:=g5.size;omega
  ·have a2:=h.nm;have a3:=h.n8;refine(other5 k (by omega) (by omega) (by omega) fun e => ?_).trans (h.below.block k hk);have:=(r1.lt k e.symm).1;omega
 have hq5:QAt w.heap.size gm (ps++[(lvl,t)]) M4 Wz (iput l lvl v'):=QAt.push (W:=W4.drew) (Wa:=Wx) (W':=Wz) ⟨⟨es,cl,q1,q2⟩,hq.row,hq.apart,hq.mem⟩ r2 hJ hv hat (fun b o hb=>z5p h.good hb o) ht z1 z2 hi;rw[hW5];refine⟨c8,⟨h.g0,zjo h.g0 h.le hBw fun b o v hb => ?_,h.le,h.mem,hBw,(g5.block _ (qd.1 cq).1 (by
  have:bq≠b8:=fun e=>by have:=h.cq;rw[e,h.c8] at this;cases this
  simpa using this)).trans cq,c85,?_,hq5.other c8 (.inl (by decide)) g5,h.m8,h.n8,h.nm,h.ne⟩⟩
 ·have hc:=h.good.2 b o v hb;have hlt:=World.block_lt_of_cell? W4 ⟨b,o,none⟩ hc;refine(World.cell?_of_block (other5 b hlt (fun e => ?_) (fun e => ?_) fun e => ?_)).trans hc
  ·rw[e] at hc;simp only[World.cell?,q1] at hc;cases hc
  ·rw[e,h.m8] at hb;cases hb
  ·rw[hq.mem lvl b o e.symm] at hb;cases hb
 ·obtain⟨es0,cl0,d1,d2⟩:=h.cd;have ld:=(qd.1 d1).1;refine⟨es0,cl0,(other5 gd ld (Ne.symm h.ne) (fun e => ?_) fun e => ?_).trans d1,d2⟩
  ·rw[e,h.c8] at d1;cases d1
  ·rcases r1.2 with⟨e0,_⟩|⟨g,cap,cur,e0,_,e1,_⟩
   ·rw[e0] at e;cases e
   ·rw[e0] at e;simp only[Value.ownBlock,qb] at e;rw[←e,d1] at e1;cases e1
attribute [local go_sem] Oper.semAt_some
theorem ycq{α:Type}:∀l:List α,l.length=27→∃x0 x1 x2 x3 x4 x5 x6 x7 x8 x9 x10 x11 x12 x13 x14 x15 x16 x17 x18 x19 x20 x21 x22 x23 x24 x25 x26,l=x0::x1::x2::x3::x4::x5::x6::x7::x8::x9::x10::x11::x12::x13::x14::x15::x16::x17::x18::x19::x20::x21::x22::x23::x24::x25::x26::[]
 |x0::x1::x2::x3::x4::x5::x6::x7::x8::x9::x10::x11::x12::x13::x14::x15::x16::x17::x18::x19::x20::x21::x22::x23::x24::x25::x26::[],_=>⟨_,_,_,_,_,_,_,_,_,_,_,_,_,_,_,_,_,_,_,_,_,_,_,_,_,_,_,rfl⟩
theorem y70{P:Program}{ops:Array Oper}{o:Oper}{a:Act}{w w':World}{K:Act→World→Prop}{Q:Exit→Act→World→Prop}{E:Prop}{v:Value}(hg:o.guard=none)(hx:(execOp a.eval o).run P w = .ok (.value v) w')(hK:K (a.put o.dst v) w') :
  if Region.wanted o (yielded ops a.tmps)=true then Oper.wp P o a w K Q else E:=by
 have hw:Region.wanted o (yielded ops a.tmps)=true:=by simp[Region.wanted,hg]
 rw[if_pos hw];unfold Oper.wp;rw[hx];exact hK
theorem y1o{P:Program}{a:Act}{w w':World}{o:Oper}{T:TypeId}{m i:Operand}{mv iv v:Value}(hop:o.op = .lookup T m i false)(hm:a.eval m=mv)(hi:a.eval i=iv)(hr:(Instr.lookup T mv iv false).run P w = .ok v w'):(execOp a.eval o).run P w = .ok (.value v) w':=by
 simp only[execOp,hop,hm,hi,Sem.run_bind,hr,Result.andThen_ok,Sem.run_pure]
theorem step_skip{P:Program}{ops:Array Oper}{o:Oper}{a:Act}{w w':World}{K:Act→World→Prop}{Q:Exit→Act→World→Prop}{E:Prop}(hg:o.guard=none)(hx:(execOp a.eval o).run P w = .ok .skip w')(hK:K a w')(hd:o.dst=none) :
  if Region.wanted o (yielded ops a.tmps)=true then Oper.wp P o a w K Q else E:=by
 have hw:Region.wanted o (yielded ops a.tmps)=true:=by simp[Region.wanted,hg]
 rw[if_pos hw];unfold Oper.wp;rw[hx];unfold Oper.upon;first|exact hK|(rw[hd];exact hK)
theorem y0h{P:Program}{a:Act}{w w':World}{o:Oper}{T:TypeId}{m i x:Operand}{mv iv v:Value}(hop:o.op = .mapUpdate T m i x)(hm:a.eval m=mv)(hi:a.eval i=iv)(hx:a.eval x=v)(hr:(Instr.mapUpdate T mv iv v).run P w = .ok () w'):(execOp a.eval o).run P w = .ok .skip w':=by
 simp only[execOp,hop,hm,hi,hx,Sem.run_bind,hr,Result.andThen_ok,Sem.run_pure]
theorem y4z(tmps:Array Value)(w:World):(Go.results Tryz.f172 tmps).run Tryz.prog w = .ok (.tuple #[]) w:=by
 have hrs:Tryz.f172.results = #[]:=by kernel_rfl
 simp only[Go.results,hrs,Sem.run_bind,List.mapM_toArray,List.mapM_nil,Sem.run_pure,Result.andThen_ok,Sem.run_map];rfl
theorem u231:Tryz.prog.underlying 231=some (.slice 184):=by kernel_rfl
def S172(B k0 gm:Nat)(lvl:Int)(rv:Value)(n:Nat)(cells:List Value)(yv lv mv:Value)(wk:Int):Nat→Value→World→Prop
 |0,v,_=>v = .map (some gm)
 |1,v,_=>v = .int .i64 lvl
 |2,v,_=>v = .map (some gm)
 |3,v,_=>v = .int .i64 lvl
 |4,v,_=>v=rv
 |5,v,_=>v = .agg #[yv,lv,mv,.int .i64 wk]
 |6,v,W=>∃g,v = .slice (some ⟨g,0,none⟩) 1 1∧W.heap[g]?=some (.cells #[yv,lv,mv,.int .i64 wk] 184 (0,0))
 |7,v,W=>W.ownsRow B 184 4 v (n+1) (cells++[yv,lv,mv,.int .i64 wk])∧(v.ownBlock=rv.ownBlock∨∃b,v.ownBlock=some b∧k0≤b)
 |_,_,_=>True
theorem yf3{B k0 gm:Nat}{lvl:Int}{rv:Value}{n:Nat}{cells:List Value}{yv lv mv:Value}{wk:Int}(j:Nat)(u:Value)(w w':World)(hb:Below w.heap.size w w')(h:S172 B k0 gm lvl rv n cells yv lv mv wk j u w):S172 B k0 gm lvl rv n cells yv lv mv wk j u w':=by
 have hne:∀x:Value,x.ownBlock=none∨x.ownBlock≠none:=fun x=>by cases x.ownBlock<;>simp
 match j,h with
 |0,h=>exact h
 |1,h=>exact h
 |2,h=>exact h
 |3,h=>exact h
 |4,h=>exact h
 |5,h=>exact h
 |6,⟨g,h1,h2⟩=>exact⟨g,h1,(hb.block g (qd.1 h2).1).trans h2⟩
 |7,⟨h1,h2⟩=>exact⟨h1.kept (below_grown hb) (hne u),h2⟩
 |_+8,_=>trivial
def C172:Nat→Option Nat
 |4=>some 7
 |6=>some 7
 |_=>none
theorem ycm{w:World}{M:Mem}{bq gm b8 gd:Nat}{ps ps':PutL}{done:List ByteArray}{l:List (Int×Value)}{M':Mem}{W:World}(h:PSt w M bq gm b8 gd ps done l M' W){n:z2w}{yv lv mv:Value}(hy:relV Tryz.prog TYd M' n.1 yv)(hl:relV Tryz.prog TWt M' n.2.1 lv)(hmv:relV Tryz.prog TMv M' n.2.2.1 mv)(hput:putN ps n=some ps') :
  Calls Tryz.prog 172 #[.agg #[yv,lv,mv,.int .i64 n.2.2.2],.pointer (some ⟨bq,0,none⟩),.pointer (some ⟨b8,0,none⟩)] W fun e W'=>e = .returned (.tuple #[])∧∃l' M2,PSt w M bq gm b8 gd ps' done l' M2 W'∧Mem.le M' M2∧z38 W W':=by
 unfold putN at hput;obtain⟨t,ht,hput⟩:=qi.1 hput;obtain⟨bl,hbl,hput⟩:=qi.1 hput;cases hc:(decide (0≤t.2.2.2)&&decide (t.2.2.2≤4294967296)&&decide (ps.length≤100000000)&&decide (bl.length≤1000000)) with
 |false=>rw[hc] at hput;cases hput
 |true=>
 rw[hc,cond_true,qb] at hput;subst hput;simp only[qg,decide_eq_true_eq] at hc;obtain⟨⟨⟨b1,b2⟩,b3⟩,b4⟩:=hc;obtain⟨w1,hw1⟩:∃w1,W.alloc (.cells #[yv,lv,mv,.int .i64 n.2.2.2] 184)=w1:=⟨_,rfl⟩
 have hB1:Below W.heap.size W w1:=by rw[←hw1];exact(Below.refl _ W).alloc (ql _) _
 have z1:w1.heap.size=W.heap.size+1:=by rw[←hw1,World.size_alloc]
 have h1:=h.kept (z0k h.good hB1) ⟨hB1,fun _ _=>rfl⟩ (Mem.le_refl _);have hc3:=World.alloc_heap_new W (.cells #[yv,lv,mv,.int .i64 n.2.2.2] 184);rw[hw1] at hc3;have j0:w1.cell? ⟨W.heap.size,0,none⟩=some yv:=z06 hc3 rfl;have j1:w1.cell? ⟨W.heap.size,1,none⟩=some lv:=z06 hc3 rfl;have j2:w1.cell? ⟨W.heap.size,2,none⟩=some mv:=z06 hc3 rfl;have j3:w1.cell? ⟨W.heap.size,3,none⟩=some (.int .i64 n.2.2.2):=z06 hc3 rfl;have htk:=zcr.2 n t ht M' w1 [.agg #[yv,lv,mv,.int .i64 n.2.2.2]] h1.good ⟨_,rfl,zno hy hl hmv⟩;have step1:∀(M2:Mem) (u:Value) (W2:World),relV Tryz.prog z0b M2 t u→Good M2 W2→Grow M' w1 M2 W2→∃ya yc la lc ma mc W3,u = .agg #[.slice ya t.1.length yc,.slice la t.2.1.length lc,.slice ma t.2.2.1.length mc,.int .i64 t.2.2.2]∧
   W2.cell? ⟨W.heap.size,0,none⟩=some yv∧W2.cell? ⟨W.heap.size,1,none⟩=some lv∧W2.cell? ⟨W.heap.size,2,none⟩=some mv∧W2.cell? ⟨W.heap.size,3,none⟩=some (.int .i64 n.2.2.2)∧(∀o,W2.frozen? ⟨W.heap.size,o,none⟩=false)∧
   ((((W2.setCell ⟨W.heap.size,0,none⟩ (.slice ya t.1.length yc)).setCell ⟨W.heap.size,1,none⟩ (.slice la t.2.1.length lc)).setCell ⟨W.heap.size,2,none⟩ (.slice ma t.2.2.1.length mc)).setCell ⟨W.heap.size,3,none⟩ (.int .i64 t.2.2.2))=W3∧
   PSt w M bq gm b8 gd ps done l M2 W3∧W3.heap[W.heap.size]?=some (.cells #[.slice ya t.1.length yc,.slice la t.2.1.length lc,.slice ma t.2.2.1.length mc,.int .i64 t.2.2.2] 184 (0,0))∧
   relV Tryz.prog TYd M2 t.1 (.slice ya t.1.length yc)∧relV Tryz.prog TWt M2 t.2.1 (.slice la t.2.1.length lc)∧relV Tryz.prog TMv M2 t.2.2.1 (.slice ma t.2.2.1.length mc)∧Mem.le M' M2∧Below W.heap.size W W3:=fun M2 u W2 hu hg2 hgr2=>by
  obtain⟨y2,l2,m2,rfl,u1,u2,u3⟩:=zkm hu;obtain⟨ya,yc,rfl⟩:=z3s u1;obtain⟨la,lc,rfl⟩:=z3s u2;obtain⟨ma,mc,rfl⟩:=z3s u3;have hlt:W.heap.size < w1.heap.size:=by omega
  have c3:=(hgr2.below.block _ hlt).trans hc3;have hle2:Mem.le M' M2:=(z12 (G:=[]) h1.good hgr2).le;have h2:=h1.kept hg2 hgr2 hle2;have n3:∀o,M2 W.heap.size o=none:=fun o=>by rw[hgr2.mem _ hlt];exact z5p h.good (ql _) o
  obtain⟨s1,s2⟩:=set4 (v0 :=.slice ya t.1.length yc) (v1 :=.slice la t.2.1.length lc) (v2 :=.slice ma t.2.2.1.length mc) (v3 :=.int .i64 t.2.2.2) c3;obtain⟨a1,_,e1⟩:=z2e (off:=0) (v :=.slice ya t.1.length yc) hg2 n3 c3;obtain⟨a2,_,e2⟩:=z2e (off:=1) (v :=.slice la t.2.1.length lc) a1 n3 e1;obtain⟨a3,_,e3⟩:=z2e (off:=2) (v :=.slice ma t.2.2.1.length mc) a2 n3 e2;obtain⟨a4,_,e4⟩:=z2e (off:=3) (v :=.int .i64 t.2.2.2) a3 n3 e3;refine⟨ya,yc,la,lc,ma,mc,_,rfl,z06 c3 rfl,z06 c3 rfl,z06 c3 rfl,z06 c3 rfl,fun _=>z2m c3,rfl,?_,s1,u1,u2,u3,hle2,(hB1.trans ⟨hgr2.below.os,hgr2.below.tape,hgr2.below.output,by have:=hgr2.below.size;omega,fun j hj=>hgr2.below.block j (by omega)⟩).grown s2 (by have:=hgr2.below.size;omega) (fun k hk=>by cases hk;exact ql _)⟩;obtain⟨es,cl,d1,d2⟩:=h2.cd;have hq0:=h.qs;have hws:=h.below.size;have nq:bq≠W.heap.size:=by have:=(qd.1 h.cq).1;omega
  have n8:b8≠W.heap.size:=by have:=(qd.1 h.c8).1;omega
  have nd:gd≠W.heap.size:=by obtain⟨_,_,q,_⟩:=h.cd;have:=(qd.1 q).1;omega
  have blk:∀b o,b≠W.heap.size→W2.heap[b]?=some o→_:=fun b (o:Obj) hb ho=>(s2.block b (qd.1 ho).1 (by simpa using hb)).trans ho
  have hq':QAt w.heap.size gm ps M2 W2 l:=hq0.kept (hB1.trans ⟨hgr2.below.os,hgr2.below.tape,hgr2.below.output,hgr2.below.size,fun j hj=>hgr2.below.block j (by omega)⟩) hle2 fun b hb=>hgr2.mem b (by omega)
  exact⟨h2.g0,a4,h2.le,h2.mem,h2.below.grown s2 h2.below.size fun k hk=>by cases hk;exact hws,blk _ _ nq h2.cq,blk _ _ n8 h2.c8,⟨es,cl,blk _ _ nd d1,d2⟩,hq'.other c3 (.inr fun k e=>by
   obtain⟨cells,r1,_⟩:=hq0.row k;have:=(r1.lt _ e).2;omega) s2,h2.m8,h2.n8,h2.nm,h2.ne⟩
 clear hy hl hmv hput;go_enter Tryz.func172,Tryz.ntmps172
 go_wp2_with (go_at_call 173;refine htk.mono ?_;clear htk;rintro e W2 ⟨M2,u,rfl,hu,hg2,hgr2⟩;obtain⟨ya,yc,la,lc,ma,mc,W3,rfl,k0,k1,k2,k3,kf,hW3,h3,c3,u1,u2,u3,hle2,hBW3⟩:=step1 M2 u W2 hu hg2 hgr2;clear step1 hu hg2)
 clear k0 k1 k2 k3 kf j0 j1 j2 j3 hgr2;have hblk:=za4.2 (t.1,t.2.1) bl hbl;have facts:∀W4:World,Below W3.heap.size W3 W4→W4.cell? ⟨W.heap.size,0,none⟩=some (.slice ya t.1.length yc)∧W4.cell? ⟨W.heap.size,1,none⟩=some (.slice la t.2.1.length lc)∧W4.cell? ⟨W.heap.size,3,none⟩=some (.int .i64 t.2.2.2):=fun W4 hB=>by
  have:=(hB.block _ (qd.1 c3).1).trans c3;exact⟨z06 this rfl,z06 this rfl,z06 this rfl⟩
 obtain⟨f0,f1,f3⟩:=facts W3 (Below.refl _ _);have h3d:PSt w M bq gm b8 gd ps done l M2 W3.drew:=h3.kept (z0k h3.good ⟨rfl,rfl,rfl,ql _,fun _ _=>rfl⟩) ⟨⟨rfl,rfl,rfl,ql _,fun _ _=>rfl⟩,fun _ _=>rfl⟩ (Mem.le_refl _);have hcall:Calls Tryz.prog 104 #[.slice ya t.1.length yc,.slice la t.2.1.length lc] W3.drew fun e W4=>∃ba bc M4,e = .returned (.slice ba bl.length bc)∧PSt w M bq gm b8 gd ps done l M4 W4∧Mem.le M2 M4∧Below W3.heap.size W3 W4∧W4.cell? ⟨W.heap.size,0,none⟩=some (.slice ya t.1.length yc)∧W4.cell? ⟨W.heap.size,1,none⟩=some (.slice la t.2.1.length lc)∧W4.cell? ⟨W.heap.size,3,none⟩=some (.int .i64 t.2.2.2):=by
  refine(hblk M2 W3.drew [_,_] h3d.good ⟨_,[_],rfl,u1,_,rfl,u2⟩).mono fun e W4 => ?_
  rintro⟨M4,v,rfl,hv,hg4,hgr4⟩;obtain⟨ba,bc,rfl⟩:=z3s (e :=.str) hv;have hB4:Below W3.heap.size W3 W4:=⟨hgr4.below.os,hgr4.below.tape,hgr4.below.output,hgr4.below.size,fun j hj=>hgr4.below.block j hj⟩
  have hle:=(z12 (G:=[]) h3d.good hgr4).le;exact⟨ba,bc,M4,rfl,h3d.kept hg4 hgr4 hle,hle,hB4,facts W4 hB4⟩
 clear hblk;have hwr:(0:Int)≤t.2.2.2+(bl.length:Int)∧t.2.2.2+(bl.length:Int)≤4295967296:=by omega
 generalize hlv:t.2.2.2+(bl.length:Int)=lvl at hwr;go_region_with (go_at_call 104;refine hcall.mono ?_;clear hcall;rintro e W4 ⟨ba,bc,M4,rfl,h4,hle4,hB4,g0,g1,g3⟩)
 all_goals
  go_wp2
  have hwrap:IntKind.i64.wrap lvl=lvl:=by rw[IntWalk.i64_left];exact IntWalk.wrap64_in _ (by omega)
  have hq:=h4.qs;obtain⟨es,cl,q1,q2⟩:=hq.map;obtain⟨cells,r1,r2⟩:=hq.row lvl;have hrb:∀b,(iget l lvl).ownBlock=some b→b < W.heap.size:=fun b hb=>by
   obtain⟨_,o1,_⟩:=h.qs.row lvl;exact(o1.lt b hb).2
  have lW:W.heap.size < W3.heap.size:=(qd.1 c3).1;have lW4:=hB4.size;have qn:∀(k:Nat) (cur:Array Value) (E:TypeId),W4.heap[k]?=some (.cells cur E (0,0))→E≠184→some k≠(iget l lvl).ownBlock:=fun k cur E hk hE e=>by
   rcases zc2 hk (Ne.symm hE) r1 with e2|e2
   ·rw[e2] at e;cases e
   ·exact e2 e.symm
  have qm:some gm≠(iget l lvl).ownBlock:=fun e=>by
   rcases r1.2 with⟨e0,_⟩|⟨g,cap,cur,e0,_,e1,_⟩
   ·rw[e0] at e;cases e
   ·rw[e0] at e;simp only[Value.ownBlock,qb] at e;rw[←e,q1] at e1;cases e1
  have q3:some W.heap.size≠(iget l lvl).ownBlock:=fun e=>by have:=hrb _ e.symm;omega
  have c34:W4.heap[W.heap.size]?=some (.cells #[.slice ya t.1.length yc,.slice la t.2.1.length lc,.slice ma t.2.2.1.length mc,.int .i64 t.2.2.2] 184 (0,0)):=(hB4.block _ lW).trans c3;have Jf:∀Wx:World,W4.drew.grownBy Wx (iget l lvl).ownBlock→Wx.heap[bq]?=some (.cells #[.map (some gm)] 229 (0,0))∧Wx.heap[gm]?=some (.map es cl)∧Wx.heap[W.heap.size]?=some (.cells #[.slice ya t.1.length yc,.slice la t.2.1.length lc,.slice ma t.2.2.1.length mc,.int .i64 t.2.2.2] 184 (0,0)):=fun Wx hx=>
   ⟨(hx.block _ (qd.1 h4.cq).1 (qn _ _ _ h4.cq (by decide))).trans h4.cq,(hx.block _ (qd.1 q1).1 qm).trans q1,(hx.block _ (qd.1 c34).1 q3).trans c34⟩
  obtain⟨i0,d0,hi0⟩:=z0l y27;obtain⟨z,hz,hz1,_⟩:=hi0.zero (by rfl);have hby:=hi0.bytes;have hzs:z.cells.size=4:=by have:=z0u z0b M4 _ _ (hz1 M4);simpa [Ty.size] using this
  have hlen:(z36 ps lvl).length≤100000000:=by
   unfold z36;rw[List.length_map];exact Nat.le_trans (List.length_filter_le _ _) b3
  refine y4i (by kernel_rfl) (c:=8) (by kernel_rfl) (by kernel_rfl) rfl rfl (by kernel_rfl) (S172 w.heap.size W4.heap.size gm lvl (iget l lvl) (z36 ps lvl).length cells (.slice ya t.1.length yc) (.slice la t.2.1.length lc) (.slice ma t.2.2.1.length mc) t.2.2.2) C172 (fun Wx=>W4.drew.grownBy Wx (iget l lvl).ownBlock) (fun Wx=>Wx.ownsRow w.heap.size 184 4 (iget l lvl) (z36 ps lvl).length cells) 7 ⟨rfl,rfl,rfl,ql _,fun _ _ _=>rfl⟩ r1 (fun W1 W2 hb h=>World.ownsRow.kept h (below_grown hb) (by cases(iget l lvl).ownBlock<;>simp)) (zmm (by kernel_rfl)) (fun W1 W2 hb h=>h.trans ⟨hb.os,hb.tape,hb.output,hb.size,fun k hk _=>hb.block k hk⟩) (fun j u W1 W2=>yf3 j u W1 W2) ?step ?fin;case step=>
   intro k o hk ho a Wx hJ hs hd hfr hS hTT;obtain⟨⟨ll⟩,df⟩:=a;simp only at hd;subst hd;obtain⟨x0,x1,x2,x3,x4,x5,x6,x7,x8,x9,x10,x11,x12,x13,x14,x15,x16,x17,x18,x19,x20,x21,x22,x23,x24,x25,x26,rfl⟩:=ycq ll hs;have e1:x1 = .pointer (some ⟨bq,0,none⟩):=hfr 1 (by decide);have e3:x3 = .pointer (some ⟨W.heap.size,0,none⟩):=hfr 3 (by decide);have e4:x4 = .int .i64 (IntKind.i64.wrap lvl):=hfr 4 (by decide);rw[hwrap] at e4;subst e1 e3 e4;obtain⟨d1,d2,d3⟩:=Jf Wx hJ;have p0:Wx.cell? ⟨bq,0,none⟩=some (.map (some gm)):=z06 d1 rfl;have p1:Wx.cell? ⟨W.heap.size,0,none⟩=some (.slice ya t.1.length yc):=z06 d3 rfl;have p2:Wx.cell? ⟨W.heap.size,1,none⟩=some (.slice la t.2.1.length lc):=z06 d3 rfl;have p3:Wx.cell? ⟨W.heap.size,2,none⟩=some (.slice ma t.2.2.1.length mc):=z06 d3 rfl;have p4:Wx.cell? ⟨W.heap.size,3,none⟩=some (.int .i64 t.2.2.2):=z06 d3 rfl;match k,hk,ho with
   |0,_,ho=>cases ho;refine wpOp_step rfl fun K' hK => ?_;go_simp;exact hK _ _ ⟨_,rfl,fun _=>rfl,.inl (Below.refl _ _)⟩
   |1,_,ho=>cases ho;refine wpOp_step rfl fun K' hK => ?_;go_simp;exact hK _ _ ⟨_,rfl,fun _=>rfl,.inl (Below.refl _ _)⟩
   |2,_,ho=>cases ho;refine wpOp_step rfl fun K' hK => ?_;go_simp;exact hK _ _ ⟨_,rfl,fun _=>rfl,.inl (Below.refl _ _)⟩
   |3,_,ho=>cases ho;refine wpOp_step rfl fun K' hK => ?_;go_simp;exact hK _ _ ⟨_,rfl,fun _=>rfl,.inl (Below.refl _ _)⟩
   |4,_,ho=>
    cases ho;have e:x18=_:=hS 2 _ 18 rfl rfl rfl (.inl rfl);subst e;have e:x19=_:=hS 3 _ 19 rfl rfl rfl (.inl rfl);subst e;exact wpOp_step rfl fun K' hK=>y70 rfl (v:=iget l lvl) (w':=Wx) (y1o rfl rfl rfl (zm4 d2 q2 lvl)) (hK _ _ ⟨_,rfl,fun _=>rfl,.inl (Below.refl _ _)⟩)
   |5,_,ho=>cases ho;refine wpOp_step rfl fun K' hK => ?_;go_simp;exact hK _ _ ⟨_,rfl,fun _=>rfl,.inl (Below.refl _ _)⟩
   |6,_,ho=>
    cases ho;have e:x21=_:=hS 5 _ 21 rfl rfl rfl (.inl rfl);subst e;refine wpOp_step rfl fun K' hK => ?_
    go_simp;exact hK _ _ ⟨_,rfl,fun _=>⟨Wx.heap.size,rfl,World.alloc_heap_new Wx _⟩,.inl ((Below.refl _ _).alloc (ql _) _)⟩
   | 7,_,ho=>
    cases ho;have e:x20=_:=hS 4 _ 20 rfl rfl rfl (.inr rfl);subst e;have hT:=hTT (.inl rfl);obtain⟨g,e,hg9⟩:∃g,x22 = .slice (some ⟨g,0,none⟩) 1 1∧Wx.heap[g]?=some (.cells #[.slice ya t.1.length yc,.slice la t.2.1.length lc,.slice ma t.2.2.1.length mc,.int .i64 t.2.2.2] 184 (0,0)):=hS 6 _ 22 rfl rfl rfl (.inr rfl)
    subst e;obtain⟨v',Wy,hrun,o1,o2,o3,o4⟩:=run_append_own_at (P:=Tryz.prog) Wx w.heap.size 231 231 184 i0 z 4 i0.bytes u231 hi0.info hz hi0.size rfl hzs (by decide) (iget l lvl) (z36 ps lvl).length cells hT ⟨g,0,none⟩ 1 1 [.slice ya t.1.length yc,.slice la t.2.1.length lc,.slice ma t.2.2.1.length mc,.int .i64 t.2.2.2] rfl (fun j u hj=>by
     rw[Addr.add_mk,Nat.zero_add];match j,hj with
     |0,hj=>exact(z06 hg9 rfl).trans hj
     |1,hj=>exact(z06 hg9 rfl).trans hj
     |2,hj=>exact(z06 hg9 rfl).trans hj
     |3,hj=>exact(z06 hg9 rfl).trans hj
     |_+4,hj=>simp at hj) (by intro u hu;simp only[List.mem_cons,List.not_mem_nil,or_false] at hu;rcases hu with rfl|rfl|rfl|rfl<;>rfl) (by unfold maxLen;omega) (by
     have:=Nat.mul_le_mul (show(z36 ps lvl).length+1≤100000001 by omega) hby;omega) (by have a1:=h4.below.size;have a2:W4.heap.size≤Wx.heap.size:=hJ.size;omega)
    refine wpOp_step rfl fun K' hK=>zae rfl (.tmp 20) (.tmp 22) 231 rfl (iget l lvl) (.slice (some ⟨g,0,none⟩) 1 1) v' rfl rfl hrun (hK _ _ ⟨v',rfl,fun _=>⟨o1,?_⟩,.inr ⟨hJ.trans o2,fun h=>absurd rfl h,fun j oj u hj hj1 hj2 hj3 hs => ?_⟩⟩)
    ·exact o4.imp id fun e=>⟨_,e,hJ.size⟩
    ·match j,hj1,hj2,hs with
     |0,_,_,hs=>exact hs
     |1,_,_,hs=>exact hs
     |2,_,_,hs=>exact hs
     |3,_,_,hs=>exact hs
     |4,_,h2,_=>exact absurd rfl h2
     |5,_,_,hs=>exact hs
     |6,_,h2,_=>exact absurd rfl h2
     |7,h1,_,_=>exact absurd rfl h1
     |_+8,_,_,_=>trivial
   |_+8,hk,_=>omega
  case fin=>
   intro a Wx hJ hs hd hfr hS;obtain⟨⟨ll⟩,df⟩:=a;simp only at hd;subst hd;obtain⟨x0,x1,x2,x3,x4,x5,x6,x7,x8,x9,x10,x11,x12,x13,x14,x15,x16,x17,x18,x19,x20,x21,x22,x23,x24,x25,x26,rfl⟩:=ycq ll hs;have e2:x2 = .pointer (some ⟨b8,0,none⟩):=hfr 2 (by decide);have e4:x4 = .int .i64 (IntKind.i64.wrap lvl):=hfr 4 (by decide);rw[hwrap] at e4;have e16:x16 = .map (some gm):=hS 0 _ 16 (by decide) rfl rfl rfl;have e17:x17 = .int .i64 lvl:=hS 1 _ 17 (by decide) rfl rfl rfl;subst e2 e4 e16 e17;obtain⟨hv,hat⟩:Wx.ownsRow w.heap.size 184 4 x23 ((z36 ps lvl).length+1) (cells++[Value.slice ya t.1.length yc,Value.slice la t.2.1.length lc,Value.slice ma t.2.2.1.length mc,Value.int .i64 t.2.2.2])∧(x23.ownBlock=(iget l lvl).ownBlock∨∃b,x23.ownBlock=some b∧W4.heap.size≤b):=hS 7 _ 23 (by decide) rfl rfl rfl;obtain⟨d1,d2,d3⟩:=Jf Wx hJ;obtain⟨es',cl',hrun,hi'⟩:=yai d2 q2 lvl x23;obtain⟨Wz,hWz⟩:∃Wz,({Wx with heap:=Wx.heap.setIfInBounds gm (.map es' cl')}:World)=Wz:=⟨_,rfl⟩
   rw[hWz] at hrun;have hend:=h4.push r2 hJ hv hat ⟨z18 hle4 u1,z18 hle4 u2,z18 hle4 u3,rfl⟩ hi' hWz.symm;obtain⟨c8z,hP⟩:=hend;rw[zpz] at hP;have y0:Wz.cell? ⟨b8,0,none⟩=some (.int .i64 (zcp ps)):=z06 c8z rfl;have yf:Wz.frozen? ⟨b8,0,none⟩=false:=z2m c8z;refine wpOp_step rfl fun K' hK=>step_skip rfl (y0h rfl rfl rfl rfl hrun) (hK _ _ ?_) rfl
   clear hK K';have hkm:z38 W (Wz.setCell ⟨b8,0,none⟩ (.int .i64 (max (zcp ps) lvl))):=⟨fun k o hk ho=>by
    have hkl:=(qd.1 hk).1;have hk4:W4.heap[k]?=some o:=(hB4.block k (by omega)).trans ((hBW3.block k hkl).trans hk);have hkx:Wx.heap[k]?=some o:=by
     refine(hJ.block k (qd.1 hk4).1 fun e => ?_).trans hk4;rcases r1.2 with⟨e0,_⟩|⟨g,cap,cur,e0,_,e1,_⟩
     ·rw[e0] at e;cases e
     ·rw[e0] at e;simp only[Value.ownBlock,qb] at e;subst e;rw[hk4] at e1;cases e1;cases ho
    have hkz:Wz.heap[k]?=some o:=by
     rw[←hWz];refine((MapKept.heap_set (w:=Wx) d2).2 k fun e => ?_).trans hkx;subst e;rw[hkx] at d2;cases d2;cases ho
    refine(z6n.block k (qd.1 hkz).1 fun e => ?_).trans hkz;have e:=Option.some.inj e;subst e;rw[hkz] at c8z;cases c8z;cases ho⟩
   clear hWz;go_wp2
   exact bodyPost_end (y4z _ _) rfl ⟨rfl,_,M4,hP,Mem.le_trans hle2 hle4,hkm⟩
end Go.Lift
