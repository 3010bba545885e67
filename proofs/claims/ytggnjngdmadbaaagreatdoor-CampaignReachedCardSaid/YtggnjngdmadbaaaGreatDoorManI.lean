/-
  The contract of ParseOrder.
-/
import Derived.Test.YtggnjngdmadbaaaGreatDoorManH
set_option maxRecDepth 100000
set_option linter.unusedSectionVars false
set_option linter.unusedVariables false
set_option linter.unusedSimpArgs false
namespace Go.Lift
open Go Go.Proofs Go.RowKit
def BrC(x:Option (Option Int×Int×z00))(i:Int):Int⊕(z00×Int)→Prop
 |.inl j=>∃q,x=some (some j,q)
 |.inr q=>x=some (none,q.2,q.1)∧i < q.2
def BrM(x:Option (Option Int×Int×z00))(k:Nat)(o:z00)(i:Int):Int⊕Int→Prop
 |.inl j=>∃q,x=some (some j,q)
 |.inr v=>x=some (none,i+2,setK k o v)
theorem y77(k:Nat)(o:z00)(n m:Int):setK k (setK k o n) m=setK k o m:=by
 match k with
 |0=>rfl
 |1=>rfl
 |2=>rfl
 |3=>rfl
 |4=>rfl
 |5=>rfl
 |k+6=>rfl
theorem y90(k:Nat)(o:z00)(n:Int):getK k (setK k o n)=n:=by
 match k with
 |0=>rfl
 |1=>rfl
 |2=>rfl
 |3=>rfl
 |4=>rfl
 |5=>rfl
 |k+6=>rfl
variable {ws:List ByteArray} {o:z00} {i:Int}
theorem znn(k:Nat)(h0:0≤i)(h1:i≤4611686018427387904):∀ {r:Option Int},zdx ws i=some r→z6t k ws i o=some (match r with|none=>(some i,i,o)|some n=>(none,i+1,setK k o n)):=by
 intro r hr;unfold z6t;rw[hr];cases r with
 |none=>rfl
 |some n=>
  simp only[qh,z7y];rw[z2p (by omega) (by omega)]
theorem zel(us:List (ByteArray×Int))(k:Nat)(h0:0≤i)(h1:i≤4611686018427387904){r:Int⊕Int}(h:z5m us ws i=some r):BrM (z2x us k ws i o) k o i r:=by
 unfold z5m at h;obtain⟨n,hn,h⟩:=qi.1 h;have hb:=znn (o:=o) k h0 h1 hn;unfold z2x zus;rw[hb,qh];cases n with
 |none=>
  simp only[qb] at h;subst h;exact⟨_,rfl⟩
 | some n=>
  simp only at h⊢;rw[decide_eq_true (show(0:Int)≤i+1 by omega),cond_true];unfold zwe;cases hu:zbk us ws (i+1) with
  |none=>
   rw[hu] at h;simp only[qb] at h;subst h;exact⟨_,rfl⟩
  |some b=>
   rw[hu] at h;simp only[qb] at h;subst h;simp only[ze8,BrM];rw[z2p (by omega) (by omega),y90,y77,show i+1+1=i+2 by omega]
theorem zxi{k:Nat}(hk:k < 6)(h0:0≤i)(h1:i≤4611686018427387000){r:Int⊕(z00×Int)}(h:zwj k ws o i=some r):BrC (ydj k ws i o) i r:=by
 have single:∀(kk:Nat) {r:Int⊕(z00×Int)},((zdx ws i).bind fun n=>match n with
   |none=>some (.inl i)
   |some n=>some (.inr (setK kk o n,i+1)))=some r→BrC (z6t kk ws i o) i r:=by
  intro kk r h;obtain⟨n,hn,h⟩:=qi.1 h;have hb:=znn (o:=o) kk h0 (by omega) hn;cases n with
  |none=>
   simp only[qb] at h;subst h;exact⟨_,hb⟩
  |some n=>
   simp only[qb] at h;subst h;exact⟨hb,by show i < i+1;omega⟩
 have double:∀(us:List (ByteArray×Int)) (kk:Nat) {r:Int⊕(z00×Int)},((z5m us ws i).bind fun v=>match v with
   |.inl j=>some (.inl j)
   |.inr v=>some (.inr (setK kk o v,i+2)))=some r→BrC (z2x us kk ws i o) i r:=by
  intro us kk r h;obtain⟨v,hv,h⟩:=qi.1 h;have hb:=zel (o:=o) us kk h0 (by omega) hv;cases v with
  |inl j=>
   simp only[qb] at h;subst h;exact hb
  |inr v=>
   simp only[qb] at h;subst h;exact⟨hb,by show i < i+2;omega⟩
 match k,hk with
 |0,_=>exact single 0 h
 |1,_=>exact double zlj 1 h
 |2,_=>exact double zlj 2 h
 |3,_=>exact double unMm 3 h
 | 4,_=>
  have h':((z5m unTo ws i).bind fun v=>match v with
   |.inl j=>some (.inl j)
   |.inr v=>(z5m unC ws (i+2)).bind fun u=>match u with
    |.inl j=>some (.inl j)
    |.inr u=>some (.inr (setK 5 (setK 4 o v) u,i+4)))=some r:=h
  obtain⟨v,hv,h⟩:=qi.1 h';have hb:=zel (o:=o) unTo 4 h0 (by omega) hv;show BrC (zkc ws i o) i r;unfold zkc zus;cases v with
  |inl j=>
   obtain⟨q,hb⟩:=hb;simp only[qb] at h;subst h;rw[hb];exact⟨_,rfl⟩
  | inr v=>
   replace hb:z2x unTo 4 ws i o=some (none,i+2,setK 4 o v):=hb
   simp only at h;obtain⟨u,hu,h⟩:=qi.1 h;rw[hb,qh];simp only;rw[decide_eq_true (show(0:Int)≤i+2 by omega),cond_true];have hb2:=zel (o:=setK 4 o v) unC 5 (by omega) (by omega) hu;cases u with
   |inl j=>
    simp only[qb] at h;subst h;exact hb2
   |inr u=>
    simp only[qb] at h;subst h;replace hb2:z2x unC 5 ws (i+2) (setK 4 o v)=some (none,i+2+2,setK 5 (setK 4 o v) u):=hb2
    simp only[BrC];rw[hb2,show i+2+2=i+4 by omega];exact⟨rfl,by omega⟩
 |5,_=>exact single 6 h
theorem zsh(hlen:ws.length≤4294967296):∀(n:Nat) (o:z00) (i:Int) (given:Nat→Bool),0≤i→∀ {r},zeh ws n o i given=some r→zuy ws n o i given=some r
 |0,_,_,_,_,_,h=>by cases h
 | n + 1,o,i,given,h0,r,h=>by
  simp only[zeh,zuy] at h⊢;by_cases hi:i < (ws.length:Int)
  ·rw [if_pos hi] at h⊢;cases hk:z8j (z17 ws i) with
   |none=>rw[hk] at h;exact h
   | some k=>
    rw[hk] at h;simp only at h⊢;cases hg:given k with
    |true=>rw[hg] at h;exact h
    | false=>
     rw[hg,cond_false] at h;rw[cond_false];obtain⟨q,hq,h⟩:=qi.1 h;have hb:=zxi (ztb hk) (by omega) (by omega) hq;cases q with
     |inl j=>
      obtain⟨q,hb⟩:=hb;rw[hb];exact h
     |inr q=>
      obtain⟨hb,hlt⟩:=hb;rw[hb,qh];simp only;rw[decide_eq_true (show i < q.2 by omega),cond_true];exact zsh hlen n q.1 q.2 _ (by omega) h
  ·rw[if_neg hi] at h⊢;exact h
end Go.Lift
namespace Go.Lift
open Go Go.Proofs Go.RowKit
attribute [local go_sem] Oper.semAt_some
theorem y0k{F:Fence}(hF:Open F)(n:Nat){M:Mem}{w:World}(hg:Good M w){s sep:ByteArray}{ws:List ByteArray}(h:strings_Split s sep=some ws) :
  CallsIn F n Tryz.prog 117 #[.string s,.string sep] w fun e w'=>∃M' v,e = .returned v∧relV Tryz.prog (.slice .str) M' ws v∧Good M' w'∧Grow M w M' w':=
 (hF.calls (zan.2 (s,sep) ws h M w [.string s,.string sep] hg ⟨_,_,rfl,z2s.2 rfl,_,rfl,z2s.2 rfl⟩)).mono (by
  rintro e w' ⟨M',v,rfl,hv,hg',hgr⟩;exact⟨M',v,rfl,hv,hg',hgr⟩)
theorem y2i{F:Fence}(hF:Open F)(n:Nat){M:Mem}{w:World}(hg:Good M w){o:z00}{c:Int}(h:z1k o=some c) :
  CallsIn F n Tryz.prog 58 #[.agg (z0v o)] w fun e w'=>∃M',e = .returned (.int .i64 c)∧Good M' w'∧Grow M w M' w':=
 (hF.calls (zcx.2 o c h M w [.agg (z0v o)] hg ⟨_,rfl,z30 (z6u o)⟩)).mono (by
  rintro e w' ⟨M',v,rfl,hv,hg',hgr⟩;have:v = .int .i64 c:=z1n.1 hv;exact⟨M',by rw[this],hg',hgr⟩)
theorem zya{tmps:Array Value}{W:World}{g:Nat}{o:z00}{E:TypeId}(h2:tmps.getD 2 undef = .pointer (some ⟨g,0,none⟩))(hb:W.heap[g]?=some (.cells (z0v o) E (0,0))) :
  (Go.results Tryz.f56 tmps).run Tryz.prog W = .ok (.tuple #[.agg (z0v o),tmps.getD 3 undef,tmps.getD 4 undef]) W:=by
 obtain⟨i,d,hi⟩:=z0l ycy;have hl:(loadVar 27 ⟨g,0,none⟩).run Tryz.prog W = .ok (z6o TO (z0v o).toList) W:=z9m hi (z6u (M:=fun _ _=>none) o) (fun j u hj=>by
  rw[Nat.zero_add];exact z06 hb (by simpa using hj))
 have hr:Tryz.f56.results = #[.cell 2 27,.tmp 3,.tmp 4]:=by kernel_rfl
 have ho:z6o TO (z0v o).toList = .agg (z0v o):=rfl;rw[ho] at hl;simp only[Go.results,hr,Sem.run_bind,List.mapM_toArray,List.mapM_cons,List.mapM_nil,h2,asAddr,Sem.run_pure,Result.andThen_ok,hl,Sem.run_map];rfl
theorem y0l{e:Ty}{M:Mem}{x:List e.den}{v:Value}(h:relV Tryz.prog (.slice e) M x v):∃p n c,v = .slice p n c:=by
 obtain⟨v',h1,h2⟩:relC Tryz.prog (.slice e) M x [v]:=h;simp only[List.cons.injEq,and_true] at h1;subst h1;rcases h2 with⟨h2,_⟩|⟨_,_,_,_,h2,_⟩|⟨_,_,h2,_⟩
 ·exact⟨_,_,_,h2⟩
 ·exact⟨_,_,_,h2⟩
 ·exact⟨_,_,_,h2⟩
def yf5(M:Mem)(w:World)(x:z00×Int×Int)(e:Ending)(w':World):Prop:=
 ∃M' v,e = .returned v∧relR Tryz.prog M' [z16,.int .i64,.int .i64] x v∧Good M' w'∧Grow M w M' w'
theorem ycn{w:World}{M:Mem}{g2:Nat}{o0 o:z00}{E:TypeId}{M2:Mem}{W:World}{tmps:Array Value}{i e:Int}(hg:Good M2 W)(hgr:Fra [] M w M2 W)(h2M:∀o,M2 g2 o=none)(h2b:W.heap[g2]?=some (.cells (z0v o0) E (0,0)))(hl2:w.heap.size≤g2)
  (h2:tmps.getD 2 undef = .pointer (some ⟨g2,0,none⟩)) (h3:tmps.getD 3 undef = .int .i64 i) (h4:tmps.getD 4 undef = .int .i64 e) :
  bodyPost Tryz.prog Tryz.f56 (yf5 M w (o,i,e)) .ret {tmps:=tmps,defers:=[]} (zfl W g2 o):=by
 obtain⟨a,b,c⟩:=zj5 (o:=o) hg h2M h2b;refine bodyPost_ret (zya h2 c) rfl ⟨M2,_,rfl,?_,a,⟨⟨b.os.trans hgr.os,b.tape.trans hgr.tape,b.output.trans hgr.output,Nat.le_trans hgr.size b.size,fun j hj => ?_⟩,fun j hj => ?_⟩⟩
 ·rw[h3,h4];exact⟨_,rfl,_,_,rfl,z30 (z6u o),_,_,rfl,z1n.2 rfl,_,rfl,z1n.2 rfl⟩
 ·exact(b.block j (Nat.lt_of_lt_of_le hj hgr.size) (by simp;omega)).trans (hgr.block j hj (by simp))
 ·exact hgr.mem j hj (by simp)
noncomputable def c56:Code:=Tryz.f56.body.getD .skip
noncomputable abbrev r4_56:Code:=cF (cF (cS (cF (cS (cS (cS c56))))))
abbrev D56(g4 g2:Nat):zxu:=⟨27,TO,g4,27,TO,g2⟩
theorem x56(g4 g2:Nat)(o:z00)(f:Int×Int):z29 (cx [] []) r4_56 .nil (stB [(2,.bptr 101 []),(7,.data (.ptr TF) f [])] ((D56 g4 g2).bs o z3d)) (zqb [2,3,4] [])=some (.normal,[(2,.bptr 101 []),(3,.data (.int .i64) f.1 []),(4,.data (.int .i64) f.2 [])],(D56 g4 g2).bs o z3d):=by kernel_rfl
set_option maxHeartbeats 8000000 in
theorem z27:Has Tryz.prog z3w:=by
 refine⟨enters_of (by kernel_rfl),fun s res hr M w vs hg hvs => ?_⟩;obtain⟨v,rfl,hv⟩:=hvs;have hv:v = .string s:=z2s.1 hv;subst hv;have hr:z48 s=some res:=hr;unfold z48 at hr;obtain⟨ws,hws,hr⟩:=qi.1 hr;have hlen:ws.length≤4294967296:=by
  have h:zy5 (bytes [32]) s=some ws:=hws;unfold zy5 at h;cases hc:(bytes [32]).size == 1&&decide (s.size≤4294967280) with
  |false=>rw[hc] at h;cases h
  |true=>
   rw[hc,cond_true,qb] at h;rw[qg,decide_eq_true_eq] at hc;have h1:=Lib.splitB_length_le (bytes [32]) 0 (Lib.countB s (bytes [32])) s;have h2:=Lib.countB_le (bytes [32]) (by decide) s.size s (ql _);rw[h] at h1;omega
 replace hr:((z1o (z17 ws 0)).bind fun is=>bif !is then some (z3d,0,7) else
  (zeh ws (ws.length+1) (z17 ws 0,(0,(0,(0,(0,((0,20000),0)))))) 1 (fun _=>false)).bind fun r=>match r with
   |.inl f=>some (z3d,f.1,f.2)
   |.inr r=>bif !(r.2 0&&r.2 1&&r.2 3) then some (z3d,0,14) else(z1k r.1).bind fun e=>bif e != 0 then some (z3d,0,e) else some (r.1,0,0))=some res:=hr
 obtain⟨is,his,hr⟩:=qi.1 hr;obtain⟨r,ht⟩:∃r:(Int×Int)⊕z00,(∀ {F:Fence} (_:Open F) (_:F.round=none) (n:Nat) {M:Mem} {w:World} {bR:Nat},Good M w→z4e Tryz.prog M w bR TR (ws,0)→CallsIn F n Tryz.prog 118 #[.pointer (some ⟨bR,0,none⟩)] w (y4l bR M w r))∧
   (match r with
    |.inl f=>res=(z3d,f.1,f.2)
    |.inr o=>∃e,z1k o=some e∧res=bif e != 0 then(z3d,0,e) else(o,0,0)):=by
  cases is with
  |false=>
   simp only[Bool.not_false,cond_true,qb] at hr;exact⟨.inl (0,7),fun hF hro n _ _ _ hg hR=>zs4 (nf0:=0) (res :=.inl (0,0)) hF hro n hg hR his (fun _=>rfl) (by omega) (fun h=>by cases h) (fun h=>by cases h),hr.symm⟩
  | true=>
   simp only[Bool.not_true,cond_false] at hr;obtain⟨q,hq,hr⟩:=qi.1 hr;have hlp:=zsh hlen _ _ _ _ (by decide) hq;refine⟨zys q,fun hF hro n _ _ _ hg hR=>zs4 hF hro n hg hR his (fun h=>by cases h) (by omega) (fun _=>hlp) (fun _=>rfl),?_⟩;cases q with
   |inl f=>
    simp only[qb] at hr;exact hr.symm
   | inr q=>
    simp only at hr;show(match(bif !(q.2 0&&q.2 1&&q.2 3) then Sum.inl ((0:Int),(14:Int)) else Sum.inr q.1) with
     |.inl f=>res=(z3d,f.1,f.2)
     |.inr o=>∃e,z1k o=some e∧res=bif e != 0 then(z3d,0,e) else(o,0,0))
    cases hgap : !(q.2 0&&q.2 1&&q.2 3) with
    |true=>
     rw[hgap,cond_true,qb] at hr;exact hr.symm
    |false=>
     rw[hgap,cond_false] at hr;obtain⟨e,he,hr⟩:=qi.1 hr;refine⟨e,he,?_⟩;cases hz:e != 0 with
     |true=>rw[hz,cond_true,qb] at hr;exact hr.symm
     |false=>rw[hz,cond_false,qb] at hr;exact hr.symm
 clear hr his;refine(callsIn_wide (n:=3)).1 ?_;obtain⟨F,hFd⟩:∃F,F=Fence.wide:=⟨_,rfl⟩
 have hF:Open F:=hFd ▸ z7w
 have hro:F.round=none:=by rw[hFd];rfl
 have hdd:∀k:Nat,(F.depth.isSome=true→1≤k):=fun k h=>by rw[hF.depth] at h;cases h
 rw[←hFd];clear hFd;obtain⟨n,hn⟩:∃n:Nat,n=3:=⟨_,rfl⟩
 rw[←hn];clear hn;show CallsIn F n Tryz.prog 56 #[.string s] w (yf5 M w res);obtain⟨w1,hw1⟩:∃w1,w.alloc (.cells (z0v z3d) 27)=w1:=⟨_,rfl⟩
 have hb1:Below w.heap.size w w1:=by rw[←hw1];exact(Below.refl _ w).alloc (ql _) _
 have hg1:=z0k hg hb1;have z1:w1.heap.size=w.heap.size+1:=by rw[←hw1,World.size_alloc]
 have hbk1:w1.heap[w.heap.size]?=some (.cells (z0v z3d) 27 (0,0)):=by rw[←hw1];exact World.alloc_heap_new w _
 have f1:Fra [] M w M w1:=z12 hg ⟨hb1,fun _ _=>rfl⟩;have h2M:∀o,M w.heap.size o=none:=fun o=>z5p hg (ql _) o
 have c1:=y0k hF (n-1) hg1 hws;replace hw1:w.alloc (.cells #[.string ⟨#[]⟩,.int .i64 0,.int .i64 0,.int .i64 0,.int .i64 0,.int .i64 0,.int .i64 0,.int .i64 0] 27)=w1:=hw1
 refine callsIn_of_wp Tryz.func56 rfl (hF.fn 56) ?_ hro;simp only[Tryz.ntmps56,List.size_toArray,qk,List.length_nil,Nat.reduceAdd,Nat.reduceSub,Array.replicate_succ,Array.replicate_zero,List.push_toArray,List.append_toArray,List.nil_append,List.cons_append];gi_wp2_with ((try refine⟨hF.fn _,?_⟩);(try refine⟨hdd _,?_⟩);gi_at_call 117;refine c1.mono ?_;clear c1;rintro e w2 ⟨M2,sv,rfl,hsv,hg2,hgr2⟩;obtain⟨sp,sn,sc,rfl⟩:=y0l hsv)
 obtain⟨a3,b3,c3⟩:=z3l (cs := #[]) (T:=166) hg2;have hbR:Below w2.heap.size w2 (w2.alloc (.cells #[.slice sp sn sc,.int .i64 0] 166)):=(Below.refl _ w2).alloc (ql _) _;have hg3:=z0k hg2 hbR;have hR3:z4e Tryz.prog M2 (w2.alloc (.cells #[.slice sp sn sc,.int .i64 0] 166)) w2.heap.size TR (ws,0):=
  ⟨⟨_,166,World.alloc_heap_new w2 _,z41 (t :=.slice .str) hsv,rfl⟩,fun o=>z5p hg2 (ql _) o⟩
 have f3:Fra [] M w M2 (w2.alloc (.cells #[.slice sp sn sc,.int .i64 0] 166)):=(f1.trans (z12 hg1 hgr2)).trans (z12 hg2 ⟨hbR,fun _ _=>rfl⟩);have hs2:=hgr2.below.size;have hbk2:w2.heap[w.heap.size]?=some (.cells (z0v z3d) 27 (0,0)):=(hgr2.below.block _ (by omega)).trans hbk1;have hbk3:(w2.alloc (.cells #[.slice sp sn sc,.int .i64 0] 166)).heap[w.heap.size]?=some (.cells (z0v z3d) 27 (0,0)):=(z3x w2 _ _ (by omega)).trans hbk2;have h2M2:∀o,M2 w.heap.size o=none:=fun o=>by rw[hgr2.mem w.heap.size (by omega)];exact h2M o
 have c4:=ht.1 hF hro (n-1) hg3 hR3;refine⟨hF.fn _,hdd _,c4.mono ?_⟩;clear c4;rintro e w4 ⟨M4,vO,vF,rfl,hg4,hf4,⟨o,hvo,hvo'⟩,hvF⟩;have hne:w.heap.size≠w2.heap.size:=by omega
 have f4:Fra [] M w M4 w4:=⟨Mem.le_trans f3.le hf4.le,hf4.os.trans f3.os,hf4.tape.trans f3.tape,hf4.output.trans f3.output,Nat.le_trans f3.size hf4.size,fun j hj _=>(hf4.block j (Nat.lt_of_lt_of_le hj f3.size) (by simp;omega)).trans (f3.block j hj (by simp)),fun j hj _=>(hf4.mem j (Nat.lt_of_lt_of_le hj f3.size) (by simp;omega)).trans (f3.mem j hj (by simp))⟩
 have hl3:=(qd.1 hbk3).1;have hbk4:w4.heap[w.heap.size]?=some (.cells (z0v z3d) 27 (0,0)):=(hf4.block _ hl3 (by simp[hne])).trans hbk3;have h2M4:∀o,M4 w.heap.size o=none:=fun o=>by rw[hf4.mem _ hl3 (by simp[hne])];exact h2M2 o
 have hl4:=(qd.1 hbk4).1;have hvO:vO = .agg (z0v o):=by
  obtain⟨cs,rfl,hc⟩:∃cs:Array Value,vO = .agg cs∧relC Tryz.prog TO M4 o cs.toList:=hvo
  have:=y2z hc;rw[show cs=z0v o from Array.ext' this]
 subst hvO;clear hvo;clear hr hws;obtain⟨hg5',hgr5',_⟩:=z3l (cs := #[]) (T:=27) hg4;have hb5:Below w4.heap.size w4 (w4.alloc (.cells (z0v o) 27)):=(Below.refl _ w4).alloc (ql _) _;have hg5:=z0k hg4 hb5;have f5:Fra [] M w M4 (w4.alloc (.cells (z0v o) 27)):=f4.trans (z12 hg4 ⟨hb5,fun _ _=>rfl⟩);have hbk5:(w4.alloc (.cells (z0v o) 27)).heap[w.heap.size]?=some (.cells (z0v z3d) 27 (0,0)):=(z3x w4 _ _ hl4).trans hbk4;have e5:(w4.alloc (.cells (z0v o) 27)).heap[w4.heap.size]?=some (.cells (z0v o) 27 (0,0)):=World.alloc_heap_new w4 _;clear hg5' hgr5';have hne5:w.heap.size≠w4.heap.size:=by omega
 cases r with
 | inl f=>
  have hres:=ht.2;simp only at hres;subst hres;have hvf:=hvF f rfl;have hvf':=hvf;obtain⟨b,off,cells,hvfe,_,_⟩:relC Tryz.prog (.ptr TF) M4 f [vF]:=hvf;simp only[List.cons.injEq,and_true] at hvfe;subst hvfe;have hT0:∀(a:Act),a.tmps.getD 2 undef = .pointer (some ⟨w.heap.size,0,none⟩)→a.tmps.getD 7 undef = .pointer (some ⟨b,off,none⟩)→Two Tryz.prog (D56 w4.heap.size w.heap.size) M4 [(2,.bptr 101 []),(7,.data (.ptr TF) f [])] o z3d a (w4.alloc (.cells (z0v o) 27)):=fun a h2 h7=>by
   refine⟨hg5,Ne.symm hne5,⟨⟨_,27,e5,z6u o⟩,fun o=>z5p hg4 (ql _) o⟩,⟨⟨_,27,hbk5,z6u z3d⟩,h2M4⟩,fun e he => ?_⟩;simp only[List.mem_cons,List.not_mem_nil,or_false] at he;rcases he with rfl|rfl
   ·exact .inr ⟨rfl,0,rfl,h2⟩
   ·refine⟨?_,rfl⟩;show relV Tryz.prog (.ptr TF) M4 f (a.tmps.getD 7 undef);rw[h7];exact hvf'
  clear hbk1 hbk2 hbk3 hbk4 hb5 hg4 hg3 hR3 f1 f3 f4 hbR hgr2 hf4 hsv hvo' hvF ht;unfold z0v;gi_wp2_with fail
  refine zg2 (D:=D56 w4.heap.size w.heap.size) z02 z25 hF r4_56 (.inr (by kernel_rfl)) (x56 w4.heap.size w.heap.size o f) (by kernel_rfl) (by kernel_rfl) (by kernel_rfl) rfl (hT0 _ rfl rfl) fun M' a' w' hT hK => ?_
  rename_i K1 hK1 K0 hK0;refine hK0 a' w' (wpIn_ret ?_);show bodyPost Tryz.prog Tryz.f56 (yf5 M w (z3d,f.1,f.2)) .ret a' w';obtain⟨E,e⟩:=z4m hT.b2;have x2:a'.tmps.getD 2 undef = .pointer (some ⟨w.heap.size,0,none⟩):=by
   rcases hT.env (2,.bptr 101 []) (by simp) with⟨h,_⟩|⟨_,off,h1,h2⟩
   ·cases h
   ·simp only[offV,qb] at h1;subst h1;exact h2
  have x3:a'.tmps.getD 3 undef = .int .i64 f.1:=z1n.1 (hT.env (3,.data (.int .i64) f.1 []) (by simp)).1;have x4:a'.tmps.getD 4 undef = .int .i64 f.2:=z1n.1 (hT.env (4,.data (.int .i64) f.2 []) (by simp)).1;have b:=hK.fra;have hd:a'.defers=[]:=hK.defers;refine bodyPost_ret (zya x2 e) hd ⟨M',_,rfl,?_,hT.good,⟨⟨b.os.trans f5.os,b.tape.trans f5.tape,b.output.trans f5.output,Nat.le_trans f5.size b.size,fun j hj => ?_⟩,fun j hj => ?_⟩⟩
  ·rw[x3,x4];exact⟨_,rfl,_,_,rfl,z30 (z6u z3d),_,_,rfl,z1n.2 rfl,_,rfl,z1n.2 rfl⟩
  ·exact(b.block j (Nat.lt_of_lt_of_le hj f5.size) (by simp;omega)).trans (f5.block j hj (by simp))
  ·exact(b.mem j (Nat.lt_of_lt_of_le hj f5.size) (by simp;omega)).trans (f5.mem j hj (by simp))
 | inr o'=>
  obtain⟨rfl,rfl⟩:=hvo' o' rfl;obtain⟨c,hc,hres⟩:∃e,z1k o=some e∧res=bif e != 0 then(z3d,0,e) else(o,0,0):=ht.2
  clear hbk1 hbk2 hbk3 hbk4 hb5 hg4 hg3 hR3 f1 f3 f4 hbR hgr2 hf4 hsv hvo' hvF ht;obtain⟨q0,q1,q2,q3,q4,q5,q6,q7,qf⟩:=z8r e5;obtain⟨w5,hw5⟩:∃w5,w4.alloc (.cells (z0v o) 27)=w5:=⟨_,rfl⟩
  rw[hw5] at q0 q1 q2 q3 q4 q5 q6 q7 qf hbk5 e5 f5 hg5;have c5:=y2i hF (n-1) hg5 hc;have hl5:=(qd.1 hbk5).1;have hl6:=(qd.1 e5).1;clear q0 q1 q2 q3 q4 q5 q6 q7 qf;have q:=z8r (World.alloc_heap_new w4 (.cells (z0v o) 27));obtain⟨q0,q1,q2,q3,q4,q5,q6,q7,qf⟩:=q;unfold z0v at q0 q1 q2 q3 q4 q5 q6 q7 qf;unfold z0v;have hdis:∀ {w6:World} {M6:Mem},Good M6 w6→Grow M4 w5 M6 w6→Fra [] M w M6 w6∧(∀o,M6 w.heap.size o=none)∧w6.heap[w.heap.size]?=some (.cells (z0v z3d) 27 (0,0))∧w6.heap[w4.heap.size]?=some (.cells (z0v o) 27 (0,0)):=fun hg6 hgr6=>
   ⟨f5.trans (z12 hg5 hgr6),fun o=>by rw[hgr6.mem _ hl5];exact h2M4 o,(hgr6.below.block _ hl5).trans hbk5,(hgr6.below.block _ hl6).trans e5⟩
  subst hw5;cases hz:c != 0 with
  |true=>
   have hc0:c≠0:=by simpa using hz
   rw[hz,cond_true] at hres;subst hres;gi_wp2_with ((try refine⟨hF.fn _,?_⟩);(try refine⟨hdd _,?_⟩);gi_at_call 58;refine c5.mono ?_;clear c5;rintro e w6 ⟨M6,rfl,hg6,hgr6⟩;obtain⟨f6,h2M6,hbk6,_⟩:=hdis hg6 hgr6;obtain⟨t0,t1,t2,t3,t4,t5,t6,t7,tf⟩:=z8r hbk6)
   exact ycn (o:=z3d) hg6 f6 h2M6 hbk6 (ql _) rfl rfl rfl
  |false=>
   have hc0:c=0:=by simpa using hz
   rw[hz,cond_false] at hres;subst hres hc0;gi_wp2_with ((try refine⟨hF.fn _,?_⟩);(try refine⟨hdd _,?_⟩);gi_at_call 58;refine c5.mono ?_;clear c5;rintro e w6 ⟨M6,rfl,hg6,hgr6⟩;obtain⟨f6,h2M6,hbk6,e6⟩:=hdis hg6 hgr6;obtain⟨t0,t1,t2,t3,t4,t5,t6,t7,tf⟩:=z8r hbk6;obtain⟨p0,p1,p2,p3,p4,p5,p6,p7,pf⟩:=z8r e6)
   exact ycn (o:=o) hg6 f6 h2M6 hbk6 (ql _) rfl rfl rfl
end Go.Lift
