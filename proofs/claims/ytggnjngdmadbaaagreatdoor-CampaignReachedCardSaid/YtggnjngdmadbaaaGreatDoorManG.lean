/-
  The reader of words: the clause with two numbers, the table of the clauses.
-/
import Derived.Test.YtggnjngdmadbaaaGreatDoorManF
set_option maxRecDepth 100000
set_option maxHeartbeats 4000000
set_option linter.unusedSectionVars false
set_option linter.unusedVariables false
set_option linter.unusedSimpArgs false
namespace Go.Lift
open Go Go.Proofs Go.RowKit
attribute [local go_sem] Oper.semAt_some
theorem ydh{bR bO g2 g5:Nat}{M0:Mem}(hne:bR≠bO)(m2:M0 g2 0=some (.pointer (some ⟨bR,0,none⟩)))(m5:M0 g5 0=some (.pointer (some ⟨bO,5,none⟩)))(mp:Option (Nat×Obj)) :
  zw0 bR bO M0 mp (.func (.func 206) #[] #[.pointer (some ⟨g2,0,none⟩),.pointer (some ⟨g5,0,none⟩)]) (z2x unTo 4):=by
 refine⟨206,_,rfl,Go.Proofs.enters_of Tryz.func206 (by kernel_rfl) rfl,?_⟩;intro F hF hro n M w ws i o r hle hmp hg hR hO h0 hrun;have hdd:∀k:Nat,(F.depth.isSome=true→1≤k):=fun k h=>by rw[hF.depth] at h;cases h
 have k2:w.cell? ⟨g2,0,none⟩=some (.pointer (some ⟨bR,0,none⟩)):=hg.2 _ _ _ (hle _ _ _ m2);have k5:w.cell? ⟨g5,0,none⟩=some (.pointer (some ⟨bO,5,none⟩)):=hg.2 _ _ _ (hle _ _ _ m5);obtain⟨w0,hw0⟩:∃w0,w.drew=w0:=⟨_,rfl⟩
 have hg0:Good M w0:=hw0 ▸ zer hg
 have f00:Fra [] M w M w0:=hw0 ▸ zhq
 obtain⟨w1,w2,es,cl,hw1,hup,hm2,hrel,hg2,hgr2⟩:=y1k hg0 (bytes [116,111]) 10;have hmk:=zkn 251 w0;rw[hw1] at hmk;replace hup:(Instr.mapUpdate 251 (.map (some w0.heap.size)) (.string ⟨#[116,111]⟩) (.int .i64 10)).run Tryz.prog w1 = .ok () w2:=hup
 have f0:Fra [] M w M w2:=f00.trans (z12 hg0 hgr2);have k20:w0.cell? ⟨g2,0,none⟩=some (.pointer (some ⟨bR,0,none⟩)):=hg0.2 _ _ _ (hle _ _ _ m2);have k50:w0.cell? ⟨g5,0,none⟩=some (.pointer (some ⟨bO,5,none⟩)):=hg0.2 _ _ _ (hle _ _ _ m5);have hg1:Good M w1:=hw1 ▸ z0k hg0 ((Below.refl _ w0).alloc (ql _) _)
 have k21:w1.cell? ⟨g2,0,none⟩=some (.pointer (some ⟨bR,0,none⟩)):=hg1.2 _ _ _ (hle _ _ _ m2);have k51:w1.cell? ⟨g5,0,none⟩=some (.pointer (some ⟨bO,5,none⟩)):=hg1.2 _ _ _ (hle _ _ _ m5);have k22:w2.cell? ⟨g2,0,none⟩=some (.pointer (some ⟨bR,0,none⟩)):=hg2.2 _ _ _ (hle _ _ _ m2);have k52:w2.cell? ⟨g5,0,none⟩=some (.pointer (some ⟨bO,5,none⟩)):=hg2.2 _ _ _ (hle _ _ _ m5);have cc:=z99 (cl:=cl) hF hro (n-1) 4 hm2 hrel hg2 hne (hR.keep f0 (by simp)) (hO.keep f0 (by simp)) h0 hrun;refine callsIn_of_wp Tryz.func206 rfl (hF.fn 206) ?_ hro;simp only[Tryz.ntmps206,List.size_toArray,qk,List.length_nil,Nat.reduceAdd,Nat.reduceSub,Array.replicate_succ,Array.replicate_zero,List.push_toArray,List.append_toArray,List.nil_append,List.cons_append];gi_wp2
 gi_region_with ((try refine⟨hF.fn _,?_⟩);(try refine⟨hdd _,?_⟩);gi_at_call 201;refine cc.mono ?_;clear cc;rintro e W2 ⟨M2,v,rfl,hv,hg3,hf2,hb2,ho2⟩)
 all_goals gi_wp2
 all_goals refine bodyPost_ret (results_tmp (t:=2) rfl _ _ _) rfl ?_
 all_goals exact⟨M2,_,rfl,hv,hg3,(f0.sub (by simp)).trans hf2,hb2,ho2⟩
theorem ydg{bR bO g2 g5:Nat}{M0:Mem}(hne:bR≠bO)(m2:M0 g2 0=some (.pointer (some ⟨bR,0,none⟩)))(m5:M0 g5 0=some (.pointer (some ⟨bO,5,none⟩)))(mp:Option (Nat×Obj)) :
  zw0 bR bO M0 mp (.func (.func 207) #[] #[.pointer (some ⟨g2,0,none⟩),.pointer (some ⟨g5,0,none⟩)]) (z2x unC 5):=by
 refine⟨207,_,rfl,Go.Proofs.enters_of Tryz.func207 (by kernel_rfl) rfl,?_⟩;intro F hF hro n M w ws i o r hle hmp hg hR hO h0 hrun;have hdd:∀k:Nat,(F.depth.isSome=true→1≤k):=fun k h=>by rw[hF.depth] at h;cases h
 have k2:w.cell? ⟨g2,0,none⟩=some (.pointer (some ⟨bR,0,none⟩)):=hg.2 _ _ _ (hle _ _ _ m2);have k5:w.cell? ⟨g5,0,none⟩=some (.pointer (some ⟨bO,5,none⟩)):=hg.2 _ _ _ (hle _ _ _ m5);obtain⟨w0,hw0⟩:∃w0,w.drew=w0:=⟨_,rfl⟩
 have hg0:Good M w0:=hw0 ▸ zer hg
 have f00:Fra [] M w M w0:=hw0 ▸ zhq
 obtain⟨w1,w2,es,cl,hw1,hup,hm2,hrel,hg2,hgr2⟩:=y1k hg0 (bytes [67]) 10;have hmk:=zkn 251 w0;rw[hw1] at hmk;replace hup:(Instr.mapUpdate 251 (.map (some w0.heap.size)) (.string ⟨#[67]⟩) (.int .i64 10)).run Tryz.prog w1 = .ok () w2:=hup
 have f0:Fra [] M w M w2:=f00.trans (z12 hg0 hgr2);have k20:w0.cell? ⟨g2,0,none⟩=some (.pointer (some ⟨bR,0,none⟩)):=hg0.2 _ _ _ (hle _ _ _ m2);have k50:w0.cell? ⟨g5,0,none⟩=some (.pointer (some ⟨bO,5,none⟩)):=hg0.2 _ _ _ (hle _ _ _ m5);have hg1:Good M w1:=hw1 ▸ z0k hg0 ((Below.refl _ w0).alloc (ql _) _)
 have k21:w1.cell? ⟨g2,0,none⟩=some (.pointer (some ⟨bR,0,none⟩)):=hg1.2 _ _ _ (hle _ _ _ m2);have k51:w1.cell? ⟨g5,0,none⟩=some (.pointer (some ⟨bO,5,none⟩)):=hg1.2 _ _ _ (hle _ _ _ m5);have k22:w2.cell? ⟨g2,0,none⟩=some (.pointer (some ⟨bR,0,none⟩)):=hg2.2 _ _ _ (hle _ _ _ m2);have k52:w2.cell? ⟨g5,0,none⟩=some (.pointer (some ⟨bO,5,none⟩)):=hg2.2 _ _ _ (hle _ _ _ m5);have cc:=z99 (cl:=cl) hF hro (n-1) 5 hm2 hrel hg2 hne (hR.keep f0 (by simp)) (hO.keep f0 (by simp)) h0 hrun;refine callsIn_of_wp Tryz.func207 rfl (hF.fn 207) ?_ hro;simp only[Tryz.ntmps207,List.size_toArray,qk,List.length_nil,Nat.reduceAdd,Nat.reduceSub,Array.replicate_succ,Array.replicate_zero,List.push_toArray,List.append_toArray,List.nil_append,List.cons_append];gi_wp2
 gi_region_with ((try refine⟨hF.fn _,?_⟩);(try refine⟨hdd _,?_⟩);gi_at_call 201;refine cc.mono ?_;clear cc;rintro e W2 ⟨M2,v,rfl,hv,hg3,hf2,hb2,ho2⟩)
 all_goals gi_wp2
 all_goals refine bodyPost_ret (results_tmp (t:=2) rfl _ _ _) rfl ?_
 all_goals exact⟨M2,_,rfl,hv,hg3,(f0.sub (by simp)).trans hf2,hb2,ho2⟩
end Go.Lift
namespace Go.Lift
open Go Go.Proofs Go.RowKit
attribute [local go_sem] Oper.semAt_some
theorem y06{w:World}{T:TypeId}{u v:Value}:(w.alloc (.cells #[u] T)).setCell ⟨w.heap.size,0,none⟩ v=w.alloc (.cells #[v] T):=by
 simp only[World.alloc,World.setCell,World.mk.injEq,and_true];apply Array.ext_getElem?;intro i;rw[Array.getElem?_modify];split
 ·rename_i e; subst e;simp
 ·rename_i e;simp[Array.getElem?_push,Ne.symm e]
noncomputable def zkc:RunT:=zus (z2x unTo 4) (z2x unC 5)
theorem y68(M0:Mem)(mp:Option (Nat×Obj)):zh8 M0 mp (.func (.func 204) #[] #[]) zkc:=by
 refine⟨204,_,rfl,Go.Proofs.enters_of Tryz.func204 (by kernel_rfl) rfl,?_⟩;intro F hF hro n M w bR bO ws i o r hle hmp hg hne hR hO h0 hrun;have hdd:∀k:Nat,(F.depth.isSome=true→1≤k):=fun k h=>by rw[hF.depth] at h;cases h
 obtain⟨w1,hw1⟩:∃w1,w.alloc (.cells #[.pointer (some ⟨bR,0,none⟩)] 163)=w1:=⟨_,rfl⟩
 obtain⟨w2,hw2⟩:∃w2,w1.alloc (.cells #[.pointer (some ⟨bO,5,none⟩)] 254)=w2:=⟨_,rfl⟩
 obtain⟨g3,hg3⟩:∃g3,w.heap.size=g3:=⟨_,rfl⟩
 obtain⟨g5,hg5⟩:∃g5,g3+1=g5:=⟨_,rfl⟩
 obtain⟨gs,hgs⟩:∃gs,g5+1=gs:=⟨_,rfl⟩
 obtain⟨v1,hv1⟩:∃v1,Value.func (.func 206) #[] #[.pointer (some ⟨g3,0,none⟩),.pointer (some ⟨g5,0,none⟩)]=v1:=⟨_,rfl⟩
 obtain⟨v2,hv2⟩:∃v2,Value.func (.func 207) #[] #[.pointer (some ⟨g3,0,none⟩),.pointer (some ⟨g5,0,none⟩)]=v2:=⟨_,rfl⟩
 obtain⟨w4,hw4⟩:∃w4,w2.alloc (.cells #[v1,v2] 218)=w4:=⟨_,rfl⟩
 have z1:w1.heap.size=g5:=by rw[←hw1,World.size_alloc,hg3,hg5]
 have z2:w2.heap.size=gs:=by rw[←hw2,World.size_alloc,z1,hgs]
 have hst:(w1.alloc (.cells #[.pointer none] 254)).setCell ⟨g5,0,none⟩ (.pointer (some ⟨bO,5,none⟩))=w2:=by
  rw[←hw2,←z1];exact y06
 obtain⟨a1,b1,c1⟩:=z3l (cs := #[.pointer (some ⟨bR,0,none⟩)]) (T:=163) hg;rw[hw1,hg3] at a1 b1;rw[hg3] at c1;obtain⟨a2,b2,c2⟩:=z3l (cs := #[.pointer (some ⟨bO,5,none⟩)]) (T:=254) a1;rw[hw2,z1] at a2 b2;rw[z1] at c2;obtain⟨a4,b4,c4⟩:=z3l (cs := #[v1,v2]) (T:=218) a2;rw[hw4,z2] at a4 b4;rw[z2] at c4;generalize hM1:z3m M g3 (#[Value.pointer (some ⟨bR,0,none⟩)]:Array Value).toList=M1 at a1 b1 c1 a2 b2 c2 a4 b4 c4;generalize hM2:z3m M1 g5 (#[Value.pointer (some ⟨bO,5,none⟩)]:Array Value).toList=M2 at a2 b2 c2 a4 b4 c4;generalize hM4:z3m M2 gs (#[v1,v2]:Array Value).toList=M4 at a4 b4 c4;have m3:M4 g3 0=some (.pointer (some ⟨bR,0,none⟩)):=c4 _ _ _ (c2 _ _ _ (by rw[←hM1,z42];rfl));have m5:M4 g5 0=some (.pointer (some ⟨bO,5,none⟩)):=c4 _ _ _ (by rw[←hM2,z42];rfl);have f4:Fra [bR,bO] M w M4 w4:=((z12 hg b1).trans (z12 a1 b2)).trans (z12 a2 b4);have f0:Fra [] M w M4 w4:=((z12 hg b1).trans (z12 a1 b2)).trans (z12 a2 b4);have s1:=ydh hne m3 m5 none;have s2:=ydg hne m3 m5 none;rw[hv1] at s1;rw[hv2] at s2;have cc:=y08 (cap:=2) hF hro (n-1) s1 s2 (gs:=gs) (by rw[←hM4,z42];rfl) (by rw[←hM4,z42];rfl) (Mem.le_refl _) (fun g ob hm=>by cases hm) (fun g ob hm=>by cases hm) a4 hne (hR.keep f0 (by simp)) (hO.keep f0 (by simp)) h0 hrun;subst hv1 hv2;have kf:(w1.alloc (.cells #[.pointer none] 254)).frozen? ⟨g5,0,none⟩=false:=by
  rw[←z1];simp only[World.frozen?,World.alloc_heap_new w1 (.cells #[.pointer none] 254)];rfl
 have kc:(w1.alloc (.cells #[.pointer none] 254)).cell? ⟨g5,0,none⟩=some (.pointer none):=by
  rw[←z1,z4g (World.alloc_heap_new w1 (.cells #[.pointer none] 254))];rfl
 refine callsIn_of_wp Tryz.func204 rfl (hF.fn 204) ?_ hro;simp only[Tryz.ntmps204,List.size_toArray,qk,List.length_nil,Nat.reduceAdd,Nat.reduceSub,Array.replicate_succ,Array.replicate_zero,List.push_toArray,List.append_toArray,List.nil_append,List.cons_append];gi_wp2_with ((try refine⟨hF.fn _,?_⟩);(try refine⟨hdd _,?_⟩);gi_at_call 205;refine cc.mono ?_;clear cc;rintro e W2 ⟨M2,v,rfl,hv,hg2,hf2,hb2,ho2⟩)
 refine bodyPost_ret (results_tmp (t:=4) rfl _ _ _) rfl ?_;exact⟨M2,_,rfl,hv,hg2,f4.trans hf2,hb2,ho2⟩
theorem zvq{f:FuncId}{run:RunT}(M0:Mem)(mp:Option (Nat×Obj))(he:∀args w,(callFunc f args).run Tryz.prog w = .ok (.enter f args) w)(h:zxz f run):zh8 M0 mp (.func (.func f) #[] #[]) run:=
 ⟨f,#[],rfl,he,fun hF hro n _ _ _ _ _ _ _ _ hle hmp hg hne hR hO h0 hrun=>h hF hro n hg hne hR hO h0 hrun⟩
end Go.Lift
namespace Go.Lift
open Go Go.Proofs Go.RowKit
attribute [local go_sem] Oper.semAt_some
theorem ye4{M:Mem}{w:World}(hg:Good M w)(j j2:ByteArray)(z z2:Int)(hj:seqb j2 j=false) :
  ∃w1 w2 w3 es cl,w.alloc (.map #[] 0)=w1∧(Instr.mapUpdate 251 (.map (some w.heap.size)) (.string j) (.int .i64 z)).run Tryz.prog w1 = .ok () w2∧(Instr.mapUpdate 251 (.map (some w.heap.size)) (.string j2) (.int .i64 z2)).run Tryz.prog w2 = .ok () w3∧w3.heap[w.heap.size]?=some (.map es cl)∧z6i .str (.int .i64) [(j,z),(j2,z2)] es∧Good M w3∧Grow M w M w3∧w3.heap.size=w.heap.size+1:=by
 have h1:(w.alloc (.map #[] 0)).heap[w.heap.size]?=some (.map #[] 0):=World.alloc_heap_new w _;obtain⟨w2,es,cl,a1,a2,a3,a4,a5⟩:=zse (l:=[]) h1 rfl j z rfl;obtain⟨w3,es3,cl3,b1,b2,b3,b4,b5⟩:=zse (l:=[(j,z)]) a2 a3 j2 z2 (by simp[hj]);have hb1:Below w.heap.size w (w.alloc (.map #[] 0)):=(Below.refl _ w).alloc (ql _) _;have hb:=(hb1.trans a5).trans b5;exact⟨_,w2,w3,es3,cl3,rfl,a1,b1,b2,b3,z0k hg hb,⟨hb,fun _ _=>rfl⟩,by rw[b4,a4,World.size_alloc]⟩
theorem ybn{M M' M2:Mem}{w w' w2:World}(h:Grow M w M' w')(k:Grow M' w' M2 w2):Grow M w M2 w2:=
 ⟨h.below.trans (k.below.mono h.below.size),fun b hb=>(k.mem b (Nat.lt_of_lt_of_le hb h.below.size)).trans (h.mem b hb)⟩
def zz0:List Bool:=[true,true,false,true,false,false]
def fnOf(gu:Nat):List Value:=[.func (.func 198) #[] #[],.func (.func 200) #[] #[.pointer (some ⟨gu,0,none⟩)],.func (.func 202) #[] #[.pointer (some ⟨gu,0,none⟩)],.func (.func 203) #[] #[],.func (.func 204) #[] #[],.func (.func 208) #[] #[]]
def zca(gu:Nat):List Value:=((zc3.zip zz0).zip (fnOf gu)).flatMap fun p=>[.string p.1.1,.bool p.1.2,p.2]
def TabEnd(M:Mem)(w:World)(e:Ending)(w':World):Prop:=
 ∃M' gs gu gm es cl,e = .returned (.slice (some ⟨gs,0,none⟩) 6 6)∧Good M' w'∧Grow M w M' w'∧w.heap.size≤gs∧M'.has gs 0 (zca gu)∧M' gu 0=some (.map (some gm))∧w'.heap[gm]?=some (.map es cl)∧w.heap.size≤gm∧z6i .str (.int .i64) zlj es
theorem zxh{F:Fence}(hF:Open F)(hro:F.round=none)(n:Nat){M:Mem}{w:World}(hg:Good M w) :
  CallsIn F n Tryz.prog 166 #[] w (TabEnd M w):=by
 obtain⟨w1,w2,w3,es,cl,hw1,hu1,hu2,hm3,hrel,hg3,hgr3,hsz3⟩:=ye4 hg (bytes [117,109]) (bytes [109,109]) 1 1000 (by kernel_rfl);have hmk:=zkn 251 w;rw[hw1] at hmk;replace hu1:(Instr.mapUpdate 251 (.map (some w.heap.size)) (.string ⟨#[117,109]⟩) (.int .i64 1)).run Tryz.prog w1 = .ok () w2:=hu1
 replace hu2:(Instr.mapUpdate 251 (.map (some w.heap.size)) (.string ⟨#[109,109]⟩) (.int .i64 1000)).run Tryz.prog w2 = .ok () w3:=hu2
 obtain⟨w4,hw4⟩:∃w4,w3.alloc (.cells #[.map (some w.heap.size)] 251)=w4:=⟨_,rfl⟩
 have hst:(w3.alloc (.cells #[.map none] 251)).setCell ⟨w.heap.size+1,0,none⟩ (.map (some w.heap.size))=w4:=by
  rw[←hw4,←hsz3];exact y06
 have kf:(w3.alloc (.cells #[.map none] 251)).frozen? ⟨w.heap.size+1,0,none⟩=false:=by
  rw[←hsz3];simp only[World.frozen?,World.alloc_heap_new w3 (.cells #[.map none] 251)];rfl
 have kc:(w3.alloc (.cells #[.map none] 251)).cell? ⟨w.heap.size+1,0,none⟩=some (.map none):=by
  rw[←hsz3,z4g (World.alloc_heap_new w3 (.cells #[.map none] 251))];rfl
 have z4:w4.heap.size=w.heap.size+2:=by rw[←hw4,World.size_alloc,hsz3]
 obtain⟨a4,b4,c4⟩:=z3l (cs := #[.map (some w.heap.size)]) (T:=251) hg3;rw[hw4,hsz3] at a4 b4;rw[hsz3] at c4;obtain⟨a5,b5,c5⟩:=z3l (cs:=(zca (w.heap.size+1)).toArray) (T:=225) a4;rw[z4] at a5 b5 c5;generalize hM4:z3m M (w.heap.size+1) (#[Value.map (some w.heap.size)]:Array Value).toList=M4 at a4 b4 c4 a5 b5 c5;generalize hM5:z3m M4 (w.heap.size+2) (zca (w.heap.size+1)).toArray.toList=M5 at a5 b5 c5;refine callsIn_of_wp Tryz.func166 rfl (hF.fn 166) ?_ hro;simp only[Tryz.ntmps166,List.size_toArray,qk,List.length_nil,Nat.reduceAdd,Nat.reduceSub,Array.replicate_succ,Array.replicate_zero,List.push_toArray,List.append_toArray,List.nil_append,List.cons_append];gi_wp2
 refine bodyPost_ret (results_tmp (t:=0) rfl _ _ _) rfl ?_;have hgr:Grow M w M5 (w4.alloc (.cells (zca (w.heap.size+1)).toArray 225)):=ybn (ybn hgr3 b4) b5;refine⟨M5,w.heap.size+2,w.heap.size+1,w.heap.size,es,cl,by rw[←z4];rfl,a5,hgr,by omega,fun j u hj => ?_,?_,?_,ql _,hrel⟩
 ·rw[←hM5,Nat.zero_add,z42];simpa using hj
 ·refine c5 _ _ _ ?_;rw[←hM4,z42];rfl
 ·rw[show(w4.alloc _).heap[w.heap.size]?=w4.heap[w.heap.size]? from z3x w4 _ _ (by omega),←hw4,z3x w3 _ _ (by omega)];exact hm3
end Go.Lift
namespace Go.Lift
open Go Go.Proofs Go.RowKit
attribute [local go_sem] Oper.semAt_some
def y2m(M:Mem)(w:World)(v:Value)(e:Ending)(w':World):Prop:=e = .returned v∧Good M w'∧Grow M w M w'
theorem ybl{F:Fence}(hF:Open F)(hro:F.round=none)(n:Nat){M:Mem}{w:World}(hg:Good M w){cw x:ByteArray}{m:Bool}{f:Value}{g9:Nat}(hf:∀cs,f ≠ .agg cs)(h9:w.cell? ⟨g9,0,none⟩=some (.string x)) :
  CallsIn F n Tryz.prog 168 #[.agg #[.string cw,.bool m,f],.pointer (some ⟨g9,0,none⟩)] w (y2m M w (.bool (seqb cw x))):=by
 have hl9:=World.block_lt_of_cell? w _ h9;obtain⟨w1,hw1⟩:∃w1,w.alloc (.cells #[.string cw,.bool m,f] 225)=w1:=⟨_,rfl⟩
 have hb:Below w.heap.size w w1:=by rw[←hw1];exact(Below.refl _ w).alloc (ql _) _
 have hg1:=z0k hg hb;have k9:w1.cell? ⟨g9,0,none⟩=some (.string x):=(World.cell?_of_block (hb.block g9 hl9)).trans h9;have kc:w1.cell? ⟨w.heap.size,0,none⟩=some (.string cw):=by
  rw[←hw1,z4g (World.alloc_heap_new w _)];rfl
 refine callsIn_of_wp Tryz.func168 rfl (hF.fn 168) ?_ hro;simp only[Tryz.ntmps168,List.size_toArray,qk,List.length_nil,Nat.reduceAdd,Nat.reduceSub,Array.replicate_succ,Array.replicate_zero,List.push_toArray,List.append_toArray,List.nil_append,List.cons_append];gi_wp2
 refine bodyPost_ret (results_tmp (t:=3) rfl _ _ _) rfl ?_;exact⟨rfl,hg1,hb,fun _ _=>rfl⟩
def idxOf:Option Nat→Int
 |none => -1
 |some k=>(k:Int)
theorem y6y{gu k:Nat}(hk:k < 6):∃cw m f,(zca gu)[k*3]?=some (.string cw)∧(zca gu)[k*3+1]?=some (.bool m)∧(zca gu)[k*3+2]?=some f∧zc3[k]?=some cw∧zz0[k]?=some m∧(fnOf gu)[k]?=some f∧∀cs,f ≠ .agg cs:=by
 obtain rfl|rfl|rfl|rfl|rfl|rfl:k=0∨k=1∨k=2∨k=3∨k=4∨k=5:=by omega
 all_goals exact⟨_,_,_,rfl,rfl,rfl,rfl,rfl,rfl,fun cs h=>by cases h⟩
theorem y1y{F:Fence}(hF:Open F)(hro:F.round=none)(n:Nat){M:Mem}{w:World}(hg:Good M w){gs gu g9:Nat}{x:ByteArray}(ht:M.has gs 0 (zca gu))(h9:w.cell? ⟨g9,0,none⟩=some (.string x)) :
  CallsIn F n Tryz.prog 167 #[.slice (some ⟨gs,0,none⟩) 6 6,.func (.func 168) #[] #[.pointer (some ⟨g9,0,none⟩)]] w (y2m M w (.int .i64 (idxOf (z8j x)))):=by
 have hdd:∀k:Nat,(F.depth.isSome=true→1≤k):=fun k h=>by rw[hF.depth] at h;cases h
 have hl9:=World.block_lt_of_cell? w _ h9;have hen:∀args w,(callFunc 168 args).run Tryz.prog w = .ok (.enter 168 args) w:=Go.Proofs.enters_of Tryz.func168 (by kernel_rfl) rfl
 refine callsIn_of_wp Tryz.func167 rfl (hF.fn 167) ?_ hro;simp only[Tryz.ntmps167,List.size_toArray,qk,List.length_nil,Nat.reduceAdd,Nat.reduceSub,Array.replicate_succ,Array.replicate_zero,List.push_toArray,List.append_toArray,List.nil_append,List.cons_append];gi_wp2
 gi_loopw [8] (fun p wr=>∃k:Nat,p = .int .i64 (k:Int)∧k≤6∧Good M wr∧Grow M w M wr∧(∀j,j < k→∀c,zc3[j]?=some c→seqb c x=false))
  (fun p wr=>(7-valI p).toNat)
 case atStart=>exact⟨0,rfl,by omega,hg,⟨Below.refl _ _,fun _ _=>rfl⟩,fun j hj=>absurd hj (Nat.not_lt_zero _)⟩
 case round=>
  obtain⟨k,rfl,hk6,hgk,hgr,hno⟩:=hrel;have k9:wr.cell? ⟨g9,0,none⟩=some (.string x):=(World.cell?_of_block (hgr.below.block g9 hl9)).trans h9;by_cases hk:k < 6
  ·obtain⟨cw,m,f,e1,e2,e3,e4,e5,e6,e7⟩:=y6y (gu:=gu) hk;have c1:wr.cell? ⟨gs,k*3,none⟩=some (.string cw):=hgk.2 _ _ _ (by have:=ht _ _ e1;rwa [Nat.zero_add] at this);have c2:wr.cell? ⟨gs,k*3+1,none⟩=some (.bool m):=hgk.2 _ _ _ (by have:=ht _ _ e2;rwa [Nat.zero_add] at this);have c3:wr.cell? ⟨gs,k*3+2,none⟩=some f:=hgk.2 _ _ _ (by have:=ht _ _ e3;rwa [Nat.zero_add] at this);have cc:=ybl hF hro (n-1) (cw:=cw) (m:=m) hgk e7 k9;cases hs:seqb cw x with
   | true=>
    rw[hs] at cc;gi_wp2_with (refine⟨hF.fn _,hdd _,cc.mono ?_⟩;clear cc;rintro e W2 ⟨rfl,hg2,hgr2⟩)
    refine bodyPost_ret (results_tmp (t:=4) rfl _ _ _) rfl ?_;refine⟨?_,hg2,ybn hgr hgr2⟩;have:z8j x=some k:=by
     unfold z8j;rw[List.findIdx?_eq_some_iff_getElem];obtain⟨hlt,he⟩:=qp.1 e4;exact⟨hlt,by rw[he];exact hs,fun j hj=>by
      have:=hno j hj (zc3[j]) (qr (by omega));simp[this]⟩
    rw[this];rfl
   |false=>
    rw[hs] at cc;gi_wp2_with (refine⟨hF.fn _,hdd _,cc.mono ?_⟩;clear cc;rintro e W2 ⟨rfl,hg2,hgr2⟩)
    refine⟨⟨k+1,by simp,by omega,hg2,ybn hgr hgr2,fun j hj c hc => ?_⟩,by simp only[valI];omega⟩;rcases Nat.lt_succ_iff_lt_or_eq.1 hj with h|rfl
    ·exact hno j h c hc
    ·rw[e4] at hc;cases hc;exact hs
  ·obtain rfl:k=6:=by omega
   gi_wp2
   refine bodyPost_ret (results_tmp (t:=4) rfl _ _ _) rfl ?_;refine⟨?_,hgk,hgr⟩;have:z8j x=none:=by
    unfold z8j;rw[List.findIdx?_eq_none_iff];intro c hc;obtain⟨j,hj⟩:=List.mem_iff_getElem?.1 hc;have hj6:j < 6:=(qp.1 hj).1;exact hno j hj6 c hj
   rw[this];rfl
end Go.Lift
