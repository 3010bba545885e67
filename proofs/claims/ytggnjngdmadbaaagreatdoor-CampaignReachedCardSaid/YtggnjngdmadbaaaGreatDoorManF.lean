/-
  The reader of words: clauses.
-/
import Derived.Test.YtggnjngdmadbaaaGreatDoorManE
import Derived.Stop.RegionWithIn
set_option maxRecDepth 100000
set_option maxHeartbeats 4000000
set_option linter.unusedSectionVars false
set_option linter.unusedVariables false
set_option linter.unusedSimpArgs false
namespace Go.Lift
open Go Go.Proofs Go.RowKit
def zls:Option Int→AVal
 |none =>.raw (.pointer none)
 |some j =>.data (.ptr TF) (j,7) []
theorem zvk{D:zxu}{M:Mem}{r:Option Int}{v:Value}(h:zt0 M r v):relS Tryz.prog D M (zls r) v:=by
 cases r with
 |none=>exact h
 |some j=>exact⟨h,rfl⟩
theorem zzq{D:zxu}{M:Mem}{r:Option Int}{v:Value}(h:relS Tryz.prog D M (zls r) v):zt0 M r v:=by
 cases r with
 |none=>exact h
 |some j=>exact h.1
abbrev lRO:z4n:=[(0,.bptr 100 []),(1,.bptr 101 [])]
def zxz(f:FuncId)(run:List ByteArray→Int→z00→Option (Option Int×Int×z00)):Prop:=
 ∀ {F:Fence} (_:Open F) (_:F.round=none) (n:Nat) {M:Mem} {w:World} {bR bO:Nat} {ws:List ByteArray} {i:Int} {o:z00} {r:Option Int×Int×z00},Good M w→bR≠bO→z4e Tryz.prog M w bR TR (ws,i)→z4e Tryz.prog M w bO TO o→0≤i→run ws i o=some r→
  CallsIn F n Tryz.prog f #[.pointer (some ⟨bR,0,none⟩),.pointer (some ⟨bO,0,none⟩)] w (zqk bR bO M w ws r.1 r.2.1 r.2.2)
noncomputable def z6t(k:Nat)(ws:List ByteArray)(i:Int)(o:z00):Option (Option Int×Int×z00):=(zdx ws i).bind fun r=>some (z7y k i o r)
noncomputable def c198:Code:=Tryz.f198.body.getD .skip
noncomputable abbrev r198:Code:=cF (cS c198)
noncomputable def o198:Oper:=(opsOf r198).getD 4 default
section
variable (bR bO:Nat) (ws:List ByteArray) (i:Int) (o:z00) (j:Int)
theorem a198:z29 (cx [] []) (cF c198) .nil (stB lRO ((DRO bR bO).bs (ws,i) o)) (zqb [0,1] [])=some (.normal,lRO,(DRO bR bO).bs (ws,i) o):=by kernel_rfl
theorem b198:z3f (cx [] []) (opsOf r198).toList (List.range' 0 4) (stB lRO ((DRO bR bO).bs (ws,i) o)) [] (zhh [5,8] [])=some ([(5,.bptr 100 []),(8,.bptr 101 (znl 0))],(DRO bR bO).bs (ws,i) o):=by kernel_rfl
theorem n198:z3f (cx [] []) (opsOf r198).toList (List.range' 5 1) (stB [(9,.raw (.pointer none))] ((DRO bR bO).bs (ws,i) o)) [] (zhh [4] [])=some ([(4,.raw (.pointer none))],(DRO bR bO).bs (ws,i) o):=by kernel_rfl
theorem s198:z3f (cx [] []) (opsOf r198).toList (List.range' 5 1) (stB [(9,.data (.ptr TF) (j,7) [])] ((DRO bR bO).bs (ws,i) o)) [] (zhh [4] [])=some ([(4,.data (.ptr TF) (j,7) [])],(DRO bR bO).bs (ws,i) o):=by kernel_rfl
theorem v198(r:Option Int):z3f (cx [] []) (opsOf r198).toList (List.range' 5 1) (stB [(9,zls r)] ((DRO bR bO).bs (ws,i) o)) [] (zhh [4] [])=some ([(4,zls r)],(DRO bR bO).bs (ws,i) o):=by
 cases r with
 |none=>exact n198 bR bO ws i o
 |some j=>exact s198 bR bO ws i o j
end
theorem y9i:zxz 198 (z6t 0):=by
 intro F hF hro n M w bR bO ws i o r hg hne hR hO h0 hrun;unfold z6t at hrun;obtain⟨q,hq,hrun⟩:=qi.1 hrun;simp only[qb] at hrun;subst hrun;refine callsIn_of_wp (c:=c198) Tryz.func198 (by kernel_rfl) (hF.fn 198) ?_ hro;obtain⟨a0,ha0⟩:∃a0:Act,a0={tmps := #[.pointer (some ⟨bR,0,none⟩),.pointer (some ⟨bO,0,none⟩)]++Array.replicate (Tryz.f198.ntmps-(#[.pointer (some ⟨bR,0,none⟩),.pointer (some ⟨bO,0,none⟩)]:Array Value).size) undef,defers:=[]}:=⟨_,rfl⟩
 rw[←ha0];have hs0:a0.tmps.size=10:=by rw[ha0,Tryz.ntmps198];simp
 have hd0:a0.defers=[]:=by rw[ha0]
 have hT0:Two Tryz.prog (DRO bR bO) M lRO (ws,i) o a0 w:=by
  rw[ha0];refine zn3 (D:=DRO bR bO) hg hne hR hO fun e he => ?_
  simp only[List.mem_cons,List.not_mem_nil,or_false] at he;rcases he with rfl|rfl
  ·exact⟨by show 0 < 2;omega,.inl ⟨rfl,0,rfl,rfl⟩⟩
  ·exact⟨by show 1 < 2;omega,.inr ⟨rfl,0,rfl,rfl⟩⟩
 rw[show c198 = .seq (cF c198) (.seq r198 .ret) from by kernel_rfl];refine wpIn_seq (zg2 z02 z25 hF _ (.inr (by kernel_rfl)) (a198 bR bO ws i o) (by rw[hs0];kernel_rfl) (by kernel_rfl) (by kernel_rfl) rfl hT0 fun M1 a1 w1 hT1 hK1 => ?_);have hs1:=hK1.size.trans hs0;have hd1:=hK1.defers.trans hd0;show(Code.seq r198 .ret).wpIn F n Tryz.prog _ a1 w1;refine wpIn_seq ?_;rw[show r198 = .region 1 (opsOf r198) false from by kernel_rfl];refine wpIn_region ?_;have hsz:(opsOf r198).size=6:=by kernel_rfl
 refine z7h (n0:=10) (D:=DRO bR bO) z25 hF 0 4 (by rw[Nat.sub_zero,List.range_eq_range']) (by rw[hsz];decide) (b198 bR bO ws i o) hs1 (by kernel_rfl) (by kernel_rfl) (by kernel_rfl) rfl hT1 fun M2 a2 w2 hT2 hK2 => ?_
 have hs2:=hK2.size.trans hs1;have hd2:=hK2.defers.trans hd1;have hf2:=hK1.fra.trans hK2.fra;rw[show List.range' (0+4) ((opsOf r198).size-(0+4))=4::List.range' 5 1 from by rw[hsz];rfl,wpOpsIn_cons];have hp5:a2.eval (.tmp 5) = .pointer (some ⟨bR,0,none⟩):=by
  rcases hT2.env (5,.bptr 100 []) (by simp) with⟨_,off,h1,h2⟩|⟨h,_⟩
  ·simp only[offV,qb] at h1;subst h1;exact h2
  ·cases h
 have hp8:a2.eval (.tmp 8) = .pointer (some ⟨bO,offK 0,none⟩):=by
  rcases hT2.env (8,.bptr 101 (znl 0)) (by simp) with⟨h,_⟩|⟨_,off,h1,h2⟩
  ·cases h
  ·rw[show offV (DRO bR bO).t2 (znl 0)=some (offK 0) from zwo 0] at h1;cases h1;exact h2
 refine zj7 hF (o:=o198) (cc:=za5 o198) (f:=199) (by kernel_rfl) (z7m (by kernel_rfl)) (by kernel_rfl) (by kernel_rfl) (enters_of (by kernel_rfl)) (by
  rw[show(za5 o198).args = #[.tmp 5,.tmp 8] from by kernel_rfl];simp only[List.map_toArray,List.map_cons,List.map_nil];rw[hp5,hp8];exact zj8 hF hro (n-1) 0 hT2.good hne hT2.b1 hT2.b2 h0 hq) ?_
 rintro e w3 ⟨M3,v,rfl,hv,hg3,hf3,hb3,ho3⟩;refine⟨_,rfl,?_⟩;rw[show o198.dst=some 9 from by kernel_rfl];have hT3:=hT2.call (d:=9) (v:=zls (z7y 0 i o q).1) (u:=v) hf3 hg3 hb3 ho3 (by rw[hs2];decide) (zvk hv) rfl;refine z7h (n0:=10) (D:=DRO bR bO) z25 hF 5 1 (by rw[hsz]) (by rw[hsz];decide) (v198 bR bO ws (z7y 0 i o q).2.1 (z7y 0 i o q).2.2 (z7y 0 i o q).1) ((z4y _ _ _).trans hs2) (by kernel_rfl) (by kernel_rfl) (by kernel_rfl) (by cases(z7y 0 i o q).1<;>rfl) (hT3.sub (by simp)) fun M4 a4 w4 hT4 hK4 => ?_
 rw[show List.range' (5+1) ((opsOf r198).size-(5+1))=[] from by rw[hsz];rfl];show Code.ret.wpIn F n Tryz.prog _ a4 w4;refine wpIn_ret ?_;refine bodyPost_ret (results_tmp (t:=4) (by kernel_rfl) _ _ _) (hK4.defers.trans ((put_defers _ _ _).trans hd2)) ?_;exact⟨M4,_,rfl,zzq (hT4.env (4,zls (z7y 0 i o q).1) (by simp)),hT4.good,(hf2.trans hf3).trans hK4.fra,hT4.b1,hT4.b2⟩
noncomputable def c208:Code:=Tryz.f208.body.getD .skip
noncomputable abbrev r208:Code:=cF (cS c208)
noncomputable def o208:Oper:=(opsOf r208).getD 4 default
section
variable (bR bO:Nat) (ws:List ByteArray) (i:Int) (o:z00) (j:Int)
theorem a208:z29 (cx [] []) (cF c208) .nil (stB lRO ((DRO bR bO).bs (ws,i) o)) (zqb [0,1] [])=some (.normal,lRO,(DRO bR bO).bs (ws,i) o):=by kernel_rfl
theorem b208:z3f (cx [] []) (opsOf r208).toList (List.range' 0 4) (stB lRO ((DRO bR bO).bs (ws,i) o)) [] (zhh [5,8] [])=some ([(5,.bptr 100 []),(8,.bptr 101 (znl 6))],(DRO bR bO).bs (ws,i) o):=by kernel_rfl
theorem n208:z3f (cx [] []) (opsOf r208).toList (List.range' 5 1) (stB [(9,.raw (.pointer none))] ((DRO bR bO).bs (ws,i) o)) [] (zhh [4] [])=some ([(4,.raw (.pointer none))],(DRO bR bO).bs (ws,i) o):=by kernel_rfl
theorem s208:z3f (cx [] []) (opsOf r208).toList (List.range' 5 1) (stB [(9,.data (.ptr TF) (j,7) [])] ((DRO bR bO).bs (ws,i) o)) [] (zhh [4] [])=some ([(4,.data (.ptr TF) (j,7) [])],(DRO bR bO).bs (ws,i) o):=by kernel_rfl
theorem v208(r:Option Int):z3f (cx [] []) (opsOf r208).toList (List.range' 5 1) (stB [(9,zls r)] ((DRO bR bO).bs (ws,i) o)) [] (zhh [4] [])=some ([(4,zls r)],(DRO bR bO).bs (ws,i) o):=by
 cases r with
 |none=>exact n208 bR bO ws i o
 |some j=>exact s208 bR bO ws i o j
end
theorem y9h:zxz 208 (z6t 6):=by
 intro F hF hro n M w bR bO ws i o r hg hne hR hO h0 hrun;unfold z6t at hrun;obtain⟨q,hq,hrun⟩:=qi.1 hrun;simp only[qb] at hrun;subst hrun;refine callsIn_of_wp (c:=c208) Tryz.func208 (by kernel_rfl) (hF.fn 208) ?_ hro;obtain⟨a0,ha0⟩:∃a0:Act,a0={tmps := #[.pointer (some ⟨bR,0,none⟩),.pointer (some ⟨bO,0,none⟩)]++Array.replicate (Tryz.f208.ntmps-(#[.pointer (some ⟨bR,0,none⟩),.pointer (some ⟨bO,0,none⟩)]:Array Value).size) undef,defers:=[]}:=⟨_,rfl⟩
 rw[←ha0];have hs0:a0.tmps.size=10:=by rw[ha0,Tryz.ntmps208];simp
 have hd0:a0.defers=[]:=by rw[ha0]
 have hT0:Two Tryz.prog (DRO bR bO) M lRO (ws,i) o a0 w:=by
  rw[ha0];refine zn3 (D:=DRO bR bO) hg hne hR hO fun e he => ?_
  simp only[List.mem_cons,List.not_mem_nil,or_false] at he;rcases he with rfl|rfl
  ·exact⟨by show 0 < 2;omega,.inl ⟨rfl,0,rfl,rfl⟩⟩
  ·exact⟨by show 1 < 2;omega,.inr ⟨rfl,0,rfl,rfl⟩⟩
 rw[show c208 = .seq (cF c208) (.seq r208 .ret) from by kernel_rfl];refine wpIn_seq (zg2 z02 z25 hF _ (.inr (by kernel_rfl)) (a208 bR bO ws i o) (by rw[hs0];kernel_rfl) (by kernel_rfl) (by kernel_rfl) rfl hT0 fun M1 a1 w1 hT1 hK1 => ?_);have hs1:=hK1.size.trans hs0;have hd1:=hK1.defers.trans hd0;show(Code.seq r208 .ret).wpIn F n Tryz.prog _ a1 w1;refine wpIn_seq ?_;rw[show r208 = .region 1 (opsOf r208) false from by kernel_rfl];refine wpIn_region ?_;have hsz:(opsOf r208).size=6:=by kernel_rfl
 refine z7h (n0:=10) (D:=DRO bR bO) z25 hF 0 4 (by rw[Nat.sub_zero,List.range_eq_range']) (by rw[hsz];decide) (b208 bR bO ws i o) hs1 (by kernel_rfl) (by kernel_rfl) (by kernel_rfl) rfl hT1 fun M2 a2 w2 hT2 hK2 => ?_
 have hs2:=hK2.size.trans hs1;have hd2:=hK2.defers.trans hd1;have hf2:=hK1.fra.trans hK2.fra;rw[show List.range' (0+4) ((opsOf r208).size-(0+4))=4::List.range' 5 1 from by rw[hsz];rfl,wpOpsIn_cons];have hp5:a2.eval (.tmp 5) = .pointer (some ⟨bR,0,none⟩):=by
  rcases hT2.env (5,.bptr 100 []) (by simp) with⟨_,off,h1,h2⟩|⟨h,_⟩
  ·simp only[offV,qb] at h1;subst h1;exact h2
  ·cases h
 have hp8:a2.eval (.tmp 8) = .pointer (some ⟨bO,offK 6,none⟩):=by
  rcases hT2.env (8,.bptr 101 (znl 6)) (by simp) with⟨h,_⟩|⟨_,off,h1,h2⟩
  ·cases h
  ·rw[show offV (DRO bR bO).t2 (znl 6)=some (offK 6) from zwo 6] at h1;cases h1;exact h2
 refine zj7 hF (o:=o208) (cc:=za5 o208) (f:=199) (by kernel_rfl) (z7m (by kernel_rfl)) (by kernel_rfl) (by kernel_rfl) (enters_of (by kernel_rfl)) (by
  rw[show(za5 o208).args = #[.tmp 5,.tmp 8] from by kernel_rfl];simp only[List.map_toArray,List.map_cons,List.map_nil];rw[hp5,hp8];exact zj8 hF hro (n-1) 6 hT2.good hne hT2.b1 hT2.b2 h0 hq) ?_
 rintro e w3 ⟨M3,v,rfl,hv,hg3,hf3,hb3,ho3⟩;refine⟨_,rfl,?_⟩;rw[show o208.dst=some 9 from by kernel_rfl];have hT3:=hT2.call (d:=9) (v:=zls (z7y 6 i o q).1) (u:=v) hf3 hg3 hb3 ho3 (by rw[hs2];decide) (zvk hv) rfl;refine z7h (n0:=10) (D:=DRO bR bO) z25 hF 5 1 (by rw[hsz]) (by rw[hsz];decide) (v208 bR bO ws (z7y 6 i o q).2.1 (z7y 6 i o q).2.2 (z7y 6 i o q).1) ((z4y _ _ _).trans hs2) (by kernel_rfl) (by kernel_rfl) (by kernel_rfl) (by cases(z7y 6 i o q).1<;>rfl) (hT3.sub (by simp)) fun M4 a4 w4 hT4 hK4 => ?_
 rw[show List.range' (5+1) ((opsOf r208).size-(5+1))=[] from by rw[hsz];rfl];show Code.ret.wpIn F n Tryz.prog _ a4 w4;refine wpIn_ret ?_;refine bodyPost_ret (results_tmp (t:=4) (by kernel_rfl) _ _ _) (hK4.defers.trans ((put_defers _ _ _).trans hd2)) ?_;exact⟨M4,_,rfl,zzq (hT4.env (4,zls (z7y 6 i o q).1) (by simp)),hT4.good,(hf2.trans hf3).trans hK4.fra,hT4.b1,hT4.b2⟩
end Go.Lift
namespace Go.Lift
open Go Go.Proofs Go.RowKit
attribute [local go_sem] Oper.semAt_some
abbrev RunT:=List ByteArray→Int→z00→Option (Option Int×Int×z00)
noncomputable def zus(r1 r2:RunT):RunT:=fun ws i o=>(r1 ws i o).bind fun q=>match q.1 with
 |some j=>some (some j,q.2)
 |none=>bif decide (0≤q.2.1) then r2 ws q.2.1 q.2.2 else none
noncomputable def zwe(us:List (ByteArray×Int))(k:Nat):RunT:=fun ws i o=>some (ze8 k i o (zbk us ws i))
noncomputable def z2x(us:List (ByteArray×Int))(k:Nat):RunT:=zus (z6t k) (zwe us k)
def zw0(bR bO:Nat)(M0:Mem)(mp:Option (Nat×Obj))(v:Value)(run:RunT):Prop:=
 ∃ f caps,v = .func (.func f) #[] caps∧(∀args w,(callFunc f args).run Tryz.prog w = .ok (.enter f args) w)∧
  ∀ {F:Fence} (_:Open F) (_:F.round=none) (n:Nat) {M:Mem} {w:World} {ws:List ByteArray} {i:Int} {o:z00} {r:Option Int×Int×z00},Mem.le M0 M→(∀g ob,mp=some (g,ob)→w.heap[g]?=some ob)→Good M w→z4e Tryz.prog M w bR TR (ws,i)→z4e Tryz.prog M w bO TO o→0≤i→run ws i o=some r→
   CallsIn F n Tryz.prog f caps w (zqk bR bO M w ws r.1 r.2.1 r.2.2)
theorem zqk.trans{bR bO:Nat}{M:Mem}{w:World}{M':Mem}{w1:World}{ws:List ByteArray}{r:Option Int}{i':Int}{o':z00}{e:Ending}{w':World}(hF:Fra [bR,bO] M w M' w1)(h:zqk bR bO M' w1 ws r i' o' e w'):zqk bR bO M w ws r i' o' e w':=by
 obtain⟨M2,v,h1,h2,h3,h4,h5,h6⟩:=h;exact⟨M2,v,h1,h2,h3,hF.trans h4,h5,h6⟩
theorem zml{M:Mem}{r:Option Int}{v:Value}(h:zt0 M r v):(r=none∧v = .pointer none)∨∃j b off,r=some j∧v = .pointer (some ⟨b,off,none⟩):=by
 cases r with
 |none=>exact .inl ⟨rfl,h⟩
 |some j=>
  obtain⟨b,off,cells,h1,_⟩:relC Tryz.prog (.ptr TF) M (j,7) [v]:=h;simp only[List.cons.injEq,and_true] at h1;exact .inr ⟨j,b,off,rfl,h1⟩
def valI:Value→Int
 |.int _ n=>n
 |_=>0
theorem y08{F:Fence}(hF:Open F)(hro:F.round=none)(n:Nat){M0:Mem}{mp:Option (Nat×Obj)}{gs cap:Nat}{v1 v2:Value}{r1 r2:RunT}{M:Mem}{w:World}{bR bO:Nat}{ws:List ByteArray}{i:Int}{o:z00}{r:Option Int×Int×z00}
  (h1:zw0 bR bO M0 mp v1 r1) (h2:zw0 bR bO M0 mp v2 r2) (m1:M0 gs 0=some v1) (m2:M0 gs 1=some v2) (hle:Mem.le M0 M) (hmp:∀g ob,mp=some (g,ob)→w.heap[g]?=some ob) (hmn:∀g ob,mp=some (g,ob)→g≠bR∧g≠bO)
  (hg:Good M w) (hne:bR≠bO) (hR:z4e Tryz.prog M w bR TR (ws,i)) (hO:z4e Tryz.prog M w bO TO o) (h0:0≤i) (hrun:zus r1 r2 ws i o=some r) :
  CallsIn F n Tryz.prog 205 #[.slice (some ⟨gs,0,none⟩) 2 cap] w (zqk bR bO M w ws r.1 r.2.1 r.2.2):=by
 have hdd:∀k:Nat,(F.depth.isSome=true→1≤k):=fun k h=>by rw[hF.depth] at h;cases h
 unfold zus at hrun;obtain⟨q,hq,hrn⟩:=qi.1 hrun;clear hrun;obtain⟨f1,caps1,rfl,hc1,h1⟩:=h1;obtain⟨f2,caps2,rfl,hc2,h2⟩:=h2;have k1:w.cell? ⟨gs,0,none⟩=some (.func (.func f1) #[] caps1):=hg.2 _ _ _ (hle _ _ _ m1);have c1:=h1 hF hro (n-1) hle hmp hg hR hO h0 hq;refine callsIn_of_wp Tryz.func205 rfl (hF.fn 205) ?_ hro;simp only[Tryz.ntmps205,List.size_toArray,qk,List.length_nil,Nat.reduceAdd,Nat.reduceSub,Array.replicate_succ,Array.replicate_zero,List.push_toArray,List.append_toArray,List.nil_append,List.cons_append];gi_wp2
 gi_loopw [8] (fun p wr=>∃(k:Nat) (Mk:Mem) (ik:Int) (ok:z00),p = .int .i64 (k:Int)∧k≤2∧Good Mk wr∧Fra [bR,bO] M w Mk wr∧z4e Tryz.prog Mk wr bR TR (ws,ik)∧z4e Tryz.prog Mk wr bO TO ok∧(k≤1→0≤ik)∧
   ((k=0∧ik=i∧ok=o)∨(k=1∧r2 ws ik ok=some r)∨(k=2∧r=(none,ik,ok))))
  (fun p wr=>(3-valI p).toNat)
 case atStart=>
  exact⟨0,M,i,o,rfl,by omega,hg,Fra.refl,hR,hO,fun _=>h0,.inl ⟨rfl,rfl,rfl⟩⟩
 case round=>
  obtain⟨k,Mk,ik,ok,rfl,hk2,hgk,hfk,hRk,hOk,hik,hcase⟩:=hrel;have hlek:Mem.le M0 Mk:=Mem.le_trans hle hfk.le;have hmpk:∀g ob,mp=some (g,ob)→wr.heap[g]?=some ob:=fun g ob hm=>by
   have h:=hmp g ob hm;have hn:=hmn g ob hm;exact(hfk.block g (qd.1 h).1 (by simp[hn.1,hn.2])).trans h
  rcases hcase with⟨rfl,rfl,rfl⟩|⟨rfl,hr2⟩|⟨rfl,rfl⟩
  ·have kc:wr.cell? ⟨gs,0,none⟩=some (.func (.func f1) #[] caps1):=hgk.2 _ _ _ (hlek _ _ _ m1);have cc:=h1 hF hro (n-1) hlek hmpk hgk hRk hOk (hik (by omega)) hq;clear c1 k1;gi_wp2_with (refine⟨hF.fn _,hdd _,cc.mono ?_⟩;clear cc;rintro e W2 ⟨M2,v,rfl,hv,hg2,hf2,hb2,ho2⟩)
   rcases zml hv with⟨hq1,rfl⟩|⟨j,b,off,hq1,rfl⟩
   ·rw[hq1] at hrn;cases hc:decide (0≤q.2.1) with
    |false=>rw[hc] at hrn;cases hrn
    |true=>
    rw[hc] at hrn;gi_wp2
    refine⟨⟨1,M2,_,_,by simp,by omega,hg2,hfk.trans hf2,hb2,ho2,fun _=>of_decide_eq_true hc,.inr (.inl ⟨rfl,hrn⟩)⟩,?_⟩;simp only[valI];omega
   ·rw[hq1] at hrn;simp only[qb] at hrn;subst hrn;rw[hq1] at hv;gi_wp2
    refine bodyPost_ret (results_tmp (t:=2) rfl _ _ _) rfl ?_;exact⟨M2,_,rfl,hv,hg2,hfk.trans hf2,hb2,ho2⟩
  ·have kc:wr.cell? ⟨gs,1,none⟩=some (.func (.func f2) #[] caps2):=hgk.2 _ _ _ (hlek _ _ _ m2);have cc:=(h2 hF hro (n-1) hlek hmpk hgk hRk hOk (hik (by omega)) hr2).mono (R':=fun e W2=>(e = .returned (.pointer none)∧∃M2,r.1=none∧Good M2 W2∧Fra [bR,bO] Mk wr M2 W2∧z4e Tryz.prog M2 W2 bR TR (ws,r.2.1)∧z4e Tryz.prog M2 W2 bO TO r.2.2)∨
    ∃b off,e = .returned (.pointer (some ⟨b,off,none⟩))∧∃M2,zt0 M2 r.1 (.pointer (some ⟨b,off,none⟩))∧Good M2 W2∧Fra [bR,bO] Mk wr M2 W2∧z4e Tryz.prog M2 W2 bR TR (ws,r.2.1)∧z4e Tryz.prog M2 W2 bO TO r.2.2) (by
     rintro e W2 ⟨M2,v,rfl,hv,hg2,hf2,hb2,ho2⟩;rcases zml hv with⟨hq1,rfl⟩|⟨j,b,off,hq1,rfl⟩
     ·exact .inl ⟨rfl,M2,hq1,hg2,hf2,hb2,ho2⟩
     ·exact .inr ⟨b,off,rfl,M2,hv,hg2,hf2,hb2,ho2⟩)
   clear c1 k1;gi_wp2_with (refine⟨hF.fn _,hdd _,cc.mono ?_⟩;clear cc;rintro e W2 (⟨rfl,M2,hq1,hg2,hf2,hb2,ho2⟩|⟨b,off,rfl,M2,hv,hg2,hf2,hb2,ho2⟩))
   ·skip
    refine⟨⟨2,M2,_,_,by simp,by omega,hg2,hfk.trans hf2,hb2,ho2,fun h=>by omega,.inr (.inr ⟨rfl,?_⟩)⟩,?_⟩
    ·rw[←hq1]
    ·simp only[valI];omega
   ·refine bodyPost_ret (results_tmp (t:=2) rfl _ _ _) rfl ?_;exact⟨M2,_,rfl,hv,hg2,hfk.trans hf2,hb2,ho2⟩
  ·gi_wp2
   refine bodyPost_ret (results_tmp (t:=2) rfl _ _ _) rfl ?_;exact⟨Mk,_,rfl,rfl,hgk,hfk,hRk,hOk⟩
end Go.Lift
namespace Go.Lift
open Go Go.Proofs Go.RowKit
attribute [local go_sem] Oper.semAt_some
def z3m(M:Mem)(B:Nat)(cs:List Value):Mem:=fun b o=>if b=B then cs[o]? else M b o
theorem z42{M:Mem}{B:Nat}{cs:List Value}(o:Nat):z3m M B cs B o=cs[o]?:=if_pos rfl
theorem z3l{M:Mem}{w:World}{cs:Array Value}{T:TypeId}(hg:Good M w):Good (z3m M w.heap.size cs.toList) (w.alloc (.cells cs T))∧Grow M w (z3m M w.heap.size cs.toList) (w.alloc (.cells cs T))∧Mem.le M (z3m M w.heap.size cs.toList):=by
 have hb:Below w.heap.size w (w.alloc (.cells cs T)):=(Below.refl _ w).alloc (ql _) _;have hno:∀o,M w.heap.size o=none:=fun o=>z5p hg (ql _) o
 have hle:Mem.le M (z3m M w.heap.size cs.toList):=fun b o u hu=>by
  unfold z3m;by_cases e:b=w.heap.size
  ·subst e;rw[hno] at hu;cases hu
  ·rw[if_neg e];exact hu
 have hg1:=z0k hg hb;refine⟨⟨Tab.keep hle (zb5.refl _) hg1.1,fun b o u hu => ?_⟩,⟨hb,fun b hlt => ?_⟩,hle⟩
 ·unfold z3m at hu;split at hu
  ·rename_i e; subst e;rw[z4g (World.alloc_heap_new w (.cells cs T))];simpa using hu
  ·exact hg1.2 b o u hu
 ·funext o;unfold z3m;rw[if_neg (by omega)]
theorem ydf{bR bO g3 g5 k:Nat}{M0:Mem}(hne:bR≠bO)(m3:M0 g3 0=some (.pointer (some ⟨bR,0,none⟩)))(m5:M0 g5 0=some (.pointer (some ⟨bO,offK k,none⟩)))(mp:Option (Nat×Obj)) :
  zw0 bR bO M0 mp (.func (.func 234) #[] #[.pointer (some ⟨g3,0,none⟩),.pointer (some ⟨g5,0,none⟩)]) (z6t k):=by
 refine⟨234,_,rfl,Go.Proofs.enters_of Tryz.func234 (by kernel_rfl) rfl,?_⟩;intro F hF hro n M w ws i o r hle hmp hg hR hO h0 hrun;have hdd:∀k:Nat,(F.depth.isSome=true→1≤k):=fun k h=>by rw[hF.depth] at h;cases h
 unfold z6t at hrun;obtain⟨q,hq,hrn⟩:=qi.1 hrun;simp only[qb] at hrn;subst hrn;have k3:w.cell? ⟨g3,0,none⟩=some (.pointer (some ⟨bR,0,none⟩)):=hg.2 _ _ _ (hle _ _ _ m3);have k5:w.cell? ⟨g5,0,none⟩=some (.pointer (some ⟨bO,offK k,none⟩)):=hg.2 _ _ _ (hle _ _ _ m5);have cc:=zj8 hF hro (n-1) k hg hne hR hO h0 hq;refine callsIn_of_wp Tryz.func234 rfl (hF.fn 234) ?_ hro;simp only[Tryz.ntmps234,List.size_toArray,qk,List.length_nil,Nat.reduceAdd,Nat.reduceSub,Array.replicate_succ,Array.replicate_zero,List.push_toArray,List.append_toArray,List.nil_append,List.cons_append];gi_wp2_with ((try refine⟨hF.fn _,?_⟩);(try refine⟨hdd _,?_⟩);gi_at_call 199;refine cc.mono ?_;clear cc;rintro e W2 ⟨M2,v,rfl,hv,hg2,hf2,hb2,ho2⟩)
 refine bodyPost_ret (results_tmp (t:=2) rfl _ _ _) rfl ?_;exact⟨M2,_,rfl,hv,hg2,hf2,hb2,ho2⟩
theorem yde{bR bO g3 g4 g5 k gm cl:Nat}{es:Array MapEntry}{us:List (ByteArray×Int)}{M0:Mem}(hne:bR≠bO)(hrel:z6i .str (.int .i64) us es)(m3:M0 g3 0=some (.pointer (some ⟨bR,0,none⟩)))(m4:M0 g4 0=some (.map (some gm)))(m5:M0 g5 0=some (.pointer (some ⟨bO,offK k,none⟩))) :
  zw0 bR bO M0 (some (gm,.map es cl)) (.func (.func 235) #[] #[.pointer (some ⟨g3,0,none⟩),.pointer (some ⟨g4,0,none⟩),.pointer (some ⟨g5,0,none⟩)]) (zwe us k):=by
 refine⟨235,_,rfl,Go.Proofs.enters_of Tryz.func235 (by kernel_rfl) rfl,?_⟩;intro F hF hro n M w ws i o r hle hmp hg hR hO h0 hrun;have hdd:∀k:Nat,(F.depth.isSome=true→1≤k):=fun k h=>by rw[hF.depth] at h;cases h
 unfold zwe at hrun;simp only[qb] at hrun;subst hrun;have k3:w.cell? ⟨g3,0,none⟩=some (.pointer (some ⟨bR,0,none⟩)):=hg.2 _ _ _ (hle _ _ _ m3);have k4:w.cell? ⟨g4,0,none⟩=some (.map (some gm)):=hg.2 _ _ _ (hle _ _ _ m4);have k5:w.cell? ⟨g5,0,none⟩=some (.pointer (some ⟨bO,offK k,none⟩)):=hg.2 _ _ _ (hle _ _ _ m5);have cc:=y4p hF hro (n-1) k (hmp gm _ rfl) hrel hg hne hR hO h0;refine callsIn_of_wp Tryz.func235 rfl (hF.fn 235) ?_ hro;simp only[Tryz.ntmps235,List.size_toArray,qk,List.length_nil,Nat.reduceAdd,Nat.reduceSub,Array.replicate_succ,Array.replicate_zero,List.push_toArray,List.append_toArray,List.nil_append,List.cons_append];gi_wp2_with ((try refine⟨hF.fn _,?_⟩);(try refine⟨hdd _,?_⟩);gi_at_call 236;refine cc.mono ?_;clear cc;rintro e W2 ⟨M2,v,rfl,hv,hg2,hf2,hb2,ho2⟩)
 refine bodyPost_ret (results_tmp (t:=3) rfl _ _ _) rfl ?_;exact⟨M2,_,rfl,hv,hg2,hf2,hb2,ho2⟩
theorem z99{F:Fence}(hF:Open F)(hro:F.round=none)(n k:Nat){us:List (ByteArray×Int)}{gm cl:Nat}{es:Array MapEntry}{M:Mem}{w:World}{bR bO:Nat}{ws:List ByteArray}{i:Int}{o:z00}{r:Option Int×Int×z00}(hmap:w.heap[gm]?=some (.map es cl))(hrel:z6i .str (.int .i64) us es)(hg:Good M w)(hne:bR≠bO)(hR:z4e Tryz.prog M w bR TR (ws,i))(hO:z4e Tryz.prog M w bO TO o)(h0:0≤i)(hrun:z2x us k ws i o=some r) :
  CallsIn F n Tryz.prog 201 #[.pointer (some ⟨bR,0,none⟩),.map (some gm),.pointer (some ⟨bO,offK k,none⟩)] w (zqk bR bO M w ws r.1 r.2.1 r.2.2):=by
 have hdd:∀k:Nat,(F.depth.isSome=true→1≤k):=fun k h=>by rw[hF.depth] at h;cases h
 have hgR:gm≠bR:=fun e=>by
  obtain⟨⟨cur,E,h,_⟩,_⟩:=hR;rw[e,h] at hmap;cases hmap
 have hgO:gm≠bO:=fun e=>by
  obtain⟨⟨cur,E,h,_⟩,_⟩:=hO;rw[e,h] at hmap;cases hmap
 obtain⟨w1,hw1⟩:∃w1,w.alloc (.cells #[.pointer (some ⟨bR,0,none⟩)] 163)=w1:=⟨_,rfl⟩
 obtain⟨w2,hw2⟩:∃w2,w1.alloc (.cells #[.map (some gm)] 251)=w2:=⟨_,rfl⟩
 obtain⟨w3,hw3⟩:∃w3,w2.alloc (.cells #[.pointer (some ⟨bO,offK k,none⟩)] 178)=w3:=⟨_,rfl⟩
 obtain⟨g3,hg3⟩:∃g3,w.heap.size=g3:=⟨_,rfl⟩
 obtain⟨g4,hg4⟩:∃g4,g3+1=g4:=⟨_,rfl⟩
 obtain⟨g5,hg5⟩:∃g5,g4+1=g5:=⟨_,rfl⟩
 obtain⟨gs,hgs⟩:∃gs,g5+1=gs:=⟨_,rfl⟩
 obtain⟨v1,hv1⟩:∃v1,Value.func (.func 234) #[] #[.pointer (some ⟨g3,0,none⟩),.pointer (some ⟨g5,0,none⟩)]=v1:=⟨_,rfl⟩
 obtain⟨v2,hv2⟩:∃v2,Value.func (.func 235) #[] #[.pointer (some ⟨g3,0,none⟩),.pointer (some ⟨g4,0,none⟩),.pointer (some ⟨g5,0,none⟩)]=v2:=⟨_,rfl⟩
 obtain⟨w4,hw4⟩:∃w4,w3.alloc (.cells #[v1,v2] 218)=w4:=⟨_,rfl⟩
 have z1:w1.heap.size=g4:=by rw[←hw1,World.size_alloc,hg3,hg4]
 have z2:w2.heap.size=g5:=by rw[←hw2,World.size_alloc,z1,hg5]
 have z3:w3.heap.size=gs:=by rw[←hw3,World.size_alloc,z2,hgs]
 obtain⟨a1,b1,c1⟩:=z3l (cs := #[.pointer (some ⟨bR,0,none⟩)]) (T:=163) hg;rw[hw1,hg3] at a1 b1;rw[hg3] at c1;obtain⟨a2,b2,c2⟩:=z3l (cs := #[.map (some gm)]) (T:=251) a1;rw[hw2,z1] at a2 b2;rw[z1] at c2;obtain⟨a3,b3,c3⟩:=z3l (cs := #[.pointer (some ⟨bO,offK k,none⟩)]) (T:=178) a2;rw[hw3,z2] at a3 b3;rw[z2] at c3;obtain⟨a4,b4,c4⟩:=z3l (cs := #[v1,v2]) (T:=218) a3;rw[hw4,z3] at a4 b4;rw[z3] at c4;generalize hM1:z3m M g3 (#[Value.pointer (some ⟨bR,0,none⟩)]:Array Value).toList=M1 at a1 b1 c1 a2 b2 c2 a3 b3 c3 a4 b4 c4;generalize hM2:z3m M1 g4 (#[Value.map (some gm)]:Array Value).toList=M2 at a2 b2 c2 a3 b3 c3 a4 b4 c4;generalize hM3:z3m M2 g5 (#[Value.pointer (some ⟨bO,offK k,none⟩)]:Array Value).toList=M3 at a3 b3 c3 a4 b4 c4;generalize hM4:z3m M3 gs (#[v1,v2]:Array Value).toList=M4 at a4 b4 c4;have m3:M4 g3 0=some (.pointer (some ⟨bR,0,none⟩)):=c4 _ _ _ (c3 _ _ _ (c2 _ _ _ (by rw[←hM1,z42];rfl)));have m4:M4 g4 0=some (.map (some gm)):=c4 _ _ _ (c3 _ _ _ (by rw[←hM2,z42];rfl));have m5:M4 g5 0=some (.pointer (some ⟨bO,offK k,none⟩)):=c4 _ _ _ (by rw[←hM3,z42];rfl);have f4:Fra [bR,bO] M w M4 w4:=(((z12 hg b1).trans (z12 a1 b2)).trans (z12 a2 b3)).trans (z12 a3 b4);have f0:Fra [] M w M4 w4:=(((z12 hg b1).trans (z12 a1 b2)).trans (z12 a2 b3)).trans (z12 a3 b4);have s1:=ydf (k:=k) hne m3 m5 (some (gm,.map es cl));have s2:=yde (cl:=cl) hne hrel m3 m4 m5;rw[hv1] at s1;rw[hv2] at s2;have hmp4:∀g ob,some (gm,Obj.map es cl)=some (g,ob)→w4.heap[g]?=some ob:=fun g ob hm=>by
  simp only[qb,Prod.mk.injEq] at hm;obtain⟨rfl,rfl⟩:=hm;exact(f4.block gm (qd.1 hmap).1 (by simp[hgR,hgO])).trans hmap
 have cc:=y08 (cap:=2) hF hro (n-1) s1 s2 (gs:=gs) (by rw[←hM4,z42];rfl) (by rw[←hM4,z42];rfl) (Mem.le_refl _) hmp4 (fun g ob hm=>by
  simp only[qb,Prod.mk.injEq] at hm;obtain⟨rfl,rfl⟩:=hm;exact⟨hgR,hgO⟩) a4 hne (hR.keep f0 (by simp)) (hO.keep f0 (by simp)) h0 hrun
 subst hv1 hv2;refine callsIn_of_wp Tryz.func201 rfl (hF.fn 201) ?_ hro;simp only[Tryz.ntmps201,List.size_toArray,qk,List.length_nil,Nat.reduceAdd,Nat.reduceSub,Array.replicate_succ,Array.replicate_zero,List.push_toArray,List.append_toArray,List.nil_append,List.cons_append];gi_wp2_with ((try refine⟨hF.fn _,?_⟩);(try refine⟨hdd _,?_⟩);gi_at_call 205;refine cc.mono ?_;clear cc;rintro e W2 ⟨M2,v,rfl,hv,hg2,hf2,hb2,ho2⟩)
 refine bodyPost_ret (results_tmp (t:=6) rfl _ _ _) rfl ?_;exact⟨M2,_,rfl,hv,hg2,f4.trans hf2,hb2,ho2⟩
end Go.Lift
namespace Go.Lift
open Go Go.Proofs Go.RowKit
theorem zkn(T:TypeId)(w:World):(Instr.makeMap T none).run Tryz.prog w = .ok (.map (some w.heap.size)) (w.alloc (.map #[] 0)):=by
 simp only[Instr.makeMap,Option.map_none,Sem.run_bind,run_newObj_alloc,Result.andThen_ok,Sem.run_pure]
theorem yej:fits Tryz.prog (.mapT .str (.int .i64)) (.inl 251)=true:=by kernel_rfl
theorem zse{w:World}{g cl:Nat}{es:Array MapEntry}{l:List (ByteArray×Int)}(hb:w.heap[g]?=some (.map es cl))(hl:z6i .str (.int .i64) l es)(j:ByteArray)(z:Int)(hn:(l.any fun p=>seqb j p.1)=false) :
  ∃w1 es' cl',(Instr.mapUpdate 251 (.map (some g)) (.string j) (.int .i64 z)).run Tryz.prog w = .ok () w1∧w1.heap[g]?=some (.map es' cl')∧z6i .str (.int .i64) (l++[(j,z)]) es'∧w1.heap.size=w.heap.size∧Below g w w1:=by
 obtain⟨K,V,hu,_,_,hfk,hfv,_⟩:=zma yej;obtain⟨ik,dk,hik⟩:=z0l hfk;have hck:=MapKept.run_checkKey (w:=w) hik.und (zfh (t :=.str) rfl hfk hik.und j) false 9999;have hgl:=(qd.1 hb).1;rcases zhu (k :=.str) (v :=.int .i64) rfl hfk hik.und j es.toList l 0 hl with⟨g1,g2,g3⟩|⟨n,pre,p,post,g1,g2,g3,g4,g6,g5⟩
 ·have hfind:=MapKept.run_findKey (w:=w) hik.und g1;refine⟨{w with heap:=w.heap.setIfInBounds g (.map (es.push {key:=encS .str j,val:=encS (.int .i64) z,born:=cl}) (cl+1))},es.push {key:=encS .str j,val:=encS (.int .i64) z,born:=cl},cl+1,?_,?_,?_,?_,?_⟩
  ·have hck':(Instr.checkKey false 10000 K (.string j)).run Tryz.prog w = .ok () w:=hck;have hfind':_:=hfind;simp only[Instr.mapUpdate,Sem.run_bind,run_underlying hu,Result.andThen_ok,MapKept.run_getObj_map hb,hck',show(Value.string j)=encS .str j from rfl,hck,hfind,MapKept.run_setObj_map _ hb,Sem.run_pure];rfl
  ·simp[hgl]
  ·unfold z6i at hl⊢;rw[Array.toList_push,List.map_append,List.map_append,hl];rfl
  ·simp
  ·exact⟨rfl,rfl,rfl,by simp,fun k hk=>by simp[Array.getElem?_setIfInBounds,Nat.ne_of_gt hk]⟩
 ·exfalso;have:(l.any fun p=>seqb j p.1)=true:=by
   rw[g2,List.any_append,List.any_cons];have:seqb j p.1=true:=g4;rw[this];simp
  rw[this] at hn;cases hn
theorem y1k{M:Mem}{w:World}(hg:Good M w)(j:ByteArray)(z:Int) :
  ∃w1 w2 es cl,w.alloc (.map #[] 0)=w1∧(Instr.mapUpdate 251 (.map (some w.heap.size)) (.string j) (.int .i64 z)).run Tryz.prog w1 = .ok () w2∧w2.heap[w.heap.size]?=some (.map es cl)∧z6i .str (.int .i64) [(j,z)] es∧Good M w2∧Grow M w M w2:=by
 have h1:(w.alloc (.map #[] 0)).heap[w.heap.size]?=some (.map #[] 0):=World.alloc_heap_new w _;obtain⟨w2,es,cl,a1,a2,a3,a4,a5⟩:=zse (l:=[]) h1 rfl j z rfl;have hb1:Below w.heap.size w (w.alloc (.map #[] 0)):=(Below.refl _ w).alloc (ql _) _;have hb:=hb1.trans a5;exact⟨_,w2,es,cl,rfl,a1,a2,a3,z0k hg hb,hb,fun _ _=>rfl⟩
attribute [local go_sem] Oper.semAt_some
def zh8(M0:Mem)(mp:Option (Nat×Obj))(v:Value)(run:RunT):Prop:=
 ∃ f caps,v = .func (.func f) #[] caps∧(∀args w,(callFunc f args).run Tryz.prog w = .ok (.enter f args) w)∧
  ∀ {F:Fence} (_:Open F) (_:F.round=none) (n:Nat) {M:Mem} {w:World} {bR bO:Nat} {ws:List ByteArray} {i:Int} {o:z00} {r:Option Int×Int×z00},Mem.le M0 M→(∀g ob,mp=some (g,ob)→w.heap[g]?=some ob)→Good M w→bR≠bO→z4e Tryz.prog M w bR TR (ws,i)→z4e Tryz.prog M w bO TO o→0≤i→run ws i o=some r→
   CallsIn F n Tryz.prog f (#[.pointer (some ⟨bR,0,none⟩),.pointer (some ⟨bO,0,none⟩)]++caps) w (zqk bR bO M w ws r.1 r.2.1 r.2.2)
theorem zhq{G:List Nat}{M:Mem}{w:World}:Fra G M w M w.drew:=⟨Mem.le_refl _,rfl,rfl,rfl,ql _,fun _ _ _=>rfl,fun _ _ _=>rfl⟩
theorem zer{M:Mem}{w:World}(h:Good M w):Good M w.drew:=⟨Tab.keep (Mem.le_refl _) (zb5.refl _) h.1,fun b o v hv=>h.2 b o v hv⟩
theorem zqx{M:Mem}{w:World}{g:Nat}{t:Ty}{x:t.den}(h:z4e Tryz.prog M w g t x):z4e Tryz.prog M w.drew g t x:=h
theorem y6b{gu gm cl:Nat}{es:Array MapEntry}{us:List (ByteArray×Int)}{M0:Mem}(hrel:z6i .str (.int .i64) us es)(m1:M0 gu 0=some (.map (some gm))) :
  zh8 M0 (some (gm,.map es cl)) (.func (.func 200) #[] #[.pointer (some ⟨gu,0,none⟩)]) (z2x us 1):=by
 refine⟨200,_,rfl,Go.Proofs.enters_of Tryz.func200 (by kernel_rfl) rfl,?_⟩;intro F hF hro n M w bR bO ws i o r hle hmp hg hne hR hO h0 hrun;have hdd:∀k:Nat,(F.depth.isSome=true→1≤k):=fun k h=>by rw[hF.depth] at h;cases h
 have k1:w.cell? ⟨gu,0,none⟩=some (.map (some gm)):=hg.2 _ _ _ (hle _ _ _ m1);have cc:=z99 (cl:=cl) (w:=w.drew) hF hro (n-1) 1 (hmp gm _ rfl) hrel (zer hg) hne (zqx hR) (zqx hO) h0 hrun;refine callsIn_of_wp Tryz.func200 rfl (hF.fn 200) ?_ hro;simp only[Tryz.ntmps200,List.size_toArray,qk,List.length_nil,Nat.reduceAdd,Nat.reduceSub,Array.replicate_succ,Array.replicate_zero,List.push_toArray,List.append_toArray,List.nil_append,List.cons_append];gi_wp2
 gi_region_with ((try refine⟨hF.fn _,?_⟩);(try refine⟨hdd _,?_⟩);gi_at_call 201;refine cc.mono ?_;clear cc;rintro e W2 ⟨M2,v,rfl,hv,hg2,hf2,hb2,ho2⟩)
 all_goals gi_wp2
 all_goals refine bodyPost_ret (results_tmp (t:=5) rfl _ _ _) rfl ?_
 all_goals exact⟨M2,_,rfl,hv,hg2,zhq.trans hf2,hb2,ho2⟩
theorem y6a{gu gm cl:Nat}{es:Array MapEntry}{us:List (ByteArray×Int)}{M0:Mem}(hrel:z6i .str (.int .i64) us es)(m1:M0 gu 0=some (.map (some gm))) :
  zh8 M0 (some (gm,.map es cl)) (.func (.func 202) #[] #[.pointer (some ⟨gu,0,none⟩)]) (z2x us 2):=by
 refine⟨202,_,rfl,Go.Proofs.enters_of Tryz.func202 (by kernel_rfl) rfl,?_⟩;intro F hF hro n M w bR bO ws i o r hle hmp hg hne hR hO h0 hrun;have hdd:∀k:Nat,(F.depth.isSome=true→1≤k):=fun k h=>by rw[hF.depth] at h;cases h
 have k1:w.cell? ⟨gu,0,none⟩=some (.map (some gm)):=hg.2 _ _ _ (hle _ _ _ m1);have cc:=z99 (cl:=cl) (w:=w.drew) hF hro (n-1) 2 (hmp gm _ rfl) hrel (zer hg) hne (zqx hR) (zqx hO) h0 hrun;refine callsIn_of_wp Tryz.func202 rfl (hF.fn 202) ?_ hro;simp only[Tryz.ntmps202,List.size_toArray,qk,List.length_nil,Nat.reduceAdd,Nat.reduceSub,Array.replicate_succ,Array.replicate_zero,List.push_toArray,List.append_toArray,List.nil_append,List.cons_append];gi_wp2
 gi_region_with ((try refine⟨hF.fn _,?_⟩);(try refine⟨hdd _,?_⟩);gi_at_call 201;refine cc.mono ?_;clear cc;rintro e W2 ⟨M2,v,rfl,hv,hg2,hf2,hb2,ho2⟩)
 all_goals gi_wp2
 all_goals refine bodyPost_ret (results_tmp (t:=5) rfl _ _ _) rfl ?_
 all_goals exact⟨M2,_,rfl,hv,hg2,zhq.trans hf2,hb2,ho2⟩
theorem y69(M0:Mem)(mp:Option (Nat×Obj)):zh8 M0 mp (.func (.func 203) #[] #[]) (z2x unMm 3):=by
 refine⟨203,_,rfl,Go.Proofs.enters_of Tryz.func203 (by kernel_rfl) rfl,?_⟩;intro F hF hro n M w bR bO ws i o r hle hmp hg hne hR hO h0 hrun;have hdd:∀k:Nat,(F.depth.isSome=true→1≤k):=fun k h=>by rw[hF.depth] at h;cases h
 obtain⟨w1,w2,es,cl,hw1,hup,hm2,hrel,hg2,hgr2⟩:=y1k hg (bytes [109,109]) 1;have hmk:=zkn 251 w;rw[hw1] at hmk;replace hup:(Instr.mapUpdate 251 (.map (some w.heap.size)) (.string ⟨#[109,109]⟩) (.int .i64 1)).run Tryz.prog w1 = .ok () w2:=hup
 have f0:Fra [] M w M w2:=z12 hg hgr2;have cc:=z99 (cl:=cl) hF hro (n-1) 3 hm2 hrel hg2 hne (hR.keep f0 (by simp)) (hO.keep f0 (by simp)) h0 hrun;refine callsIn_of_wp Tryz.func203 rfl (hF.fn 203) ?_ hro;simp only[Tryz.ntmps203,List.size_toArray,qk,List.length_nil,Nat.reduceAdd,Nat.reduceSub,Array.replicate_succ,Array.replicate_zero,List.push_toArray,List.append_toArray,List.nil_append,List.cons_append];gi_wp2_with ((try refine⟨hF.fn _,?_⟩);(try refine⟨hdd _,?_⟩);gi_at_call 201;refine cc.mono ?_;clear cc;rintro e W2 ⟨M2,v,rfl,hv,hg3,hf2,hb2,ho2⟩)
 refine bodyPost_ret (results_tmp (t:=4) rfl _ _ _) rfl ?_;exact⟨M2,_,rfl,hv,hg3,(z12 hg hgr2).trans hf2,hb2,ho2⟩
end Go.Lift
