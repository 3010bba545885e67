/-
  The reader of words: words, numbers, units.
-/
import Derived.Test.YtggnjngdmadbaaaGreatDoorManD
import Derived.Test.YtggnjngdmadbaaaGreatDoorLiftP
set_option maxHeartbeats 1000000
set_option linter.unusedSectionVars false
set_option linter.unusedVariables false
set_option linter.unusedSimpArgs false
namespace Go.Lift
open Go Go.Proofs Go.RowKit
noncomputable def c164:Code:=Tryz.f164.body.getD .skip
noncomputable def c165:Code:=Tryz.f165.body.getD .skip
abbrev TR:Ty:=zde
abbrev TO:Ty:=z16
abbrev TF:Ty :=.pair (.int .i64) (.int .i64)
abbrev bxR(ws:List ByteArray)(i:Int):Nat×Box:=(100,⟨166,TR,(ws,i),[],false⟩)
theorem e164(ws:List ByteArray)(i:Int):z29 (cx [] []) c164 .nil (stB [(0,.bptr 100 [])] [bxR ws i]) (obsR [2,3] [100] [])=
 bif decide (i≥(ws.length:Int)) then some ([(2,.data .str ByteArray.empty []),(3,.data .bool false [])],[bxR ws i]) else chk (decide ((0:Int)≤i)&&decide (i < (ws.length:Int))) (some ([(2,.data .str (lget ByteArray.empty ws i) []),(3,.data .bool true [])],[bxR ws i])):=by kernel_rfl
theorem e165(ws:List ByteArray)(i:Int):z29 (cx [] []) c165 .nil (stB [(0,.bptr 100 [])] [bxR ws i]) (obsR [2] [100] [8])=
 some ([(2,.data (.ptr TF) (i,7) [])],[bxR ws i]):=by kernel_rfl
theorem y6r{ws:List ByteArray}{i:Int}(h0:0≤i)(h:i < (ws.length:Int)):z17 ws i=lget ByteArray.empty ws i:=by unfold z17;rw[if_pos h]
theorem y6s{ws:List ByteArray}{i:Int}(h:¬i < (ws.length:Int)):z17 ws i=ByteArray.empty:=by unfold z17;rw[if_neg h]
theorem zrk{fn:Func}{s t:Nat}(h:fn.results = #[.tmp s,.tmp t])(tmps:Array Value)(w:World):(Go.results fn tmps).run Tryz.prog w = .ok (.tuple #[tmps.getD s undef,tmps.getD t undef]) w:=results_tmp2 h tmps Tryz.prog w
theorem e164'{ws:List ByteArray}{i:Int}(h0:0≤i):z29 (cx [] []) c164 .nil (stB [(0,.bptr 100 [])] [bxR ws i]) (obsR [2,3] [100] [])=some ([(2,.data .str (z17 ws i) []),(3,.data .bool (decide (i < (ws.length:Int))) [])],[bxR ws i]):=by
 refine(e164 ws i).trans ?_;by_cases h:i < (ws.length:Int)
 ·rw[show decide (i≥(ws.length:Int))=false from decide_eq_false (by omega),cond_false,show(decide ((0:Int)≤i)&&decide (i < (ws.length:Int)))=true from by rw[decide_eq_true h0,decide_eq_true h]; rfl,y6r h0 h,decide_eq_true h];rfl
 ·rw[show decide (i≥(ws.length:Int))=true from decide_eq_true (by omega),cond_true,y6s h,decide_eq_false h]
theorem zgu{F:Fence}(hF:Open F)(hro:F.round=none)(n:Nat){M:Mem}{w:World}{bR:Nat}{ws:List ByteArray}{i:Int}(hg:Good M w)(hR:z4e Tryz.prog M w bR TR (ws,i))(h0:0≤i) :
  CallsIn F n Tryz.prog 164 #[.pointer (some ⟨bR,0,none⟩)] w fun e w'=>∃M',e = .returned (.tuple #[.string (z17 ws i),.bool (decide (i < (ws.length:Int)))])∧Good M' w'∧Fra [bR] M w M' w'∧z4e Tryz.prog M' w' bR TR (ws,i):=by
 refine(callB (base:=0) (κ:=kap1 100 bR) (G:=[bR]) (resv:=fun t =>.tuple #[t.getD 2 undef,t.getD 3 undef]) z02 z25 hF hro (c:=c164) Tryz.func164 (by kernel_rfl) (e164' h0) (by kernel_rfl) (by rw[Tryz.ntmps164];kernel_rfl) (by kernel_rfl) (by kernel_rfl) (y7h hg hR fun e he => ?_) (fun i g h => ?_) (zrk (by kernel_rfl))).mono ?_
 ·rw[List.mem_singleton] at he;subst he;exact⟨_,bR,0,rfl,if_pos rfl,rfl,ztk (j:=0) (Nat.lt_succ_self 0)⟩
 ·unfold kap1 at h;split at h
  ·cases h;simp
  ·cases h
 ·rintro e w' ⟨κ',M',a',rfl,hfra,hRel,hκ⟩;have hs:a'.tmps.getD 2 undef = .string (z17 ws i):=z2s.1 (hRel.env 2 _ rfl).1;have hb:a'.tmps.getD 3 undef = .bool (decide (i < (ws.length:Int))):=z2f.1 (hRel.env 3 _ rfl).1;refine⟨M',by rw[hs,hb],hRel.good,hfra,?_⟩;have hk:κ' 100=some bR:=(hκ 100 (by simp) _ rfl).trans (if_pos rfl);exact zqw hk (hRel.bx 100 _ rfl)
theorem zhw{F:Fence}(hF:Open F)(hro:F.round=none)(n:Nat){M:Mem}{w:World}{bR:Nat}{ws:List ByteArray}{i:Int}(hg:Good M w)(hR:z4e Tryz.prog M w bR TR (ws,i)) :
  CallsIn F n Tryz.prog 165 #[.pointer (some ⟨bR,0,none⟩)] w fun e w'=>∃M' v,e = .returned v∧relV Tryz.prog (.ptr TF) M' (i,7) v∧Good M' w'∧Fra [bR] M w M' w'∧z4e Tryz.prog M' w' bR TR (ws,i):=by
 refine(callB (base:=0) (κ:=kap1 100 bR) (G:=[bR]) (resv:=fun t=>t.getD 2 undef) z02 z25 hF hro (c:=c165) Tryz.func165 (by kernel_rfl) (e165 ws i) (by kernel_rfl) (by rw[Tryz.ntmps165];kernel_rfl) (by kernel_rfl) (by kernel_rfl) (y7h hg hR fun e he => ?_) (fun i g h => ?_) (fun t w=>results_tmp (t:=2) (by kernel_rfl) t Tryz.prog w)).mono ?_
 ·rw[List.mem_singleton] at he;subst he;exact⟨_,bR,0,rfl,if_pos rfl,rfl,ztk (j:=0) (Nat.lt_succ_self 0)⟩
 ·unfold kap1 at h;split at h
  ·cases h;simp
  ·cases h
 ·rintro e w' ⟨κ',M',a',rfl,hfra,hRel,hκ⟩;have hk:κ' 100=some bR:=(hκ 100 (by simp) _ rfl).trans (if_pos rfl);exact⟨M',_,rfl,(hRel.env 2 _ rfl).1,hRel.good,hfra,zqw hk (hRel.bx 100 _ rfl)⟩
noncomputable def c199:Code:=Tryz.f199.body.getD .skip
def znl:Nat→Path
 |0=>[.snd,.fst]
 |1=>[.snd,.snd,.fst]
 |2=>[.snd,.snd,.snd,.fst]
 |3=>[.snd,.snd,.snd,.snd,.fst]
 |4=>[.snd,.snd,.snd,.snd,.snd,.fst,.fst]
 |5=>[.snd,.snd,.snd,.snd,.snd,.fst,.snd]
 |_=>[.snd,.snd,.snd,.snd,.snd,.snd]
def setK:Nat→z00→Int→z00
 |0,o,n=>(o.1,(n,o.2.2))
 |1,o,n=>(o.1,(o.2.1,(n,o.2.2.2)))
 |2,o,n=>(o.1,(o.2.1,(o.2.2.1,(n,o.2.2.2.2))))
 |3,o,n=>(o.1,(o.2.1,(o.2.2.1,(o.2.2.2.1,(n,o.2.2.2.2.2)))))
 |4,o,n=>(o.1,(o.2.1,(o.2.2.1,(o.2.2.2.1,(o.2.2.2.2.1,((n,o.2.2.2.2.2.1.2),o.2.2.2.2.2.2))))))
 |5,o,n=>(o.1,(o.2.1,(o.2.2.1,(o.2.2.2.1,(o.2.2.2.2.1,((o.2.2.2.2.2.1.1,n),o.2.2.2.2.2.2))))))
 |_,o,n=>(o.1,(o.2.1,(o.2.2.1,(o.2.2.2.1,(o.2.2.2.2.1,(o.2.2.2.2.2.1,n))))))
abbrev DRO(bR bO:Nat):zxu:=⟨166,TR,bR,27,TO,bO⟩
abbrev l199(k:Nat):z4n:=[(0,.bptr 100 []),(1,.bptr 101 (znl k))]
section
variable (bR bO:Nat) (ws:List ByteArray) (i:Int) (o:z00) (k:Nat) (s:ByteArray) (b:Bool) (n:Int) (v:Value)
theorem a199:z29 (cx [] []) (cF c199) .nil (stB (l199 k) ((DRO bR bO).bs (ws,i) o)) (zqb [0,1] [])=some (.normal,l199 k,(DRO bR bO).bs (ws,i) o):=by kernel_rfl
theorem b199:z3f (cx [] []) (opsOf (cF (cS c199))).toList (List.range' 0 1) (stB (l199 k) ((DRO bR bO).bs (ws,i) o)) [] (zhh [0,1,10] [])=some (l199 k++[(10,.bptr 100 [])],(DRO bR bO).bs (ws,i) o):=by kernel_rfl
theorem d199:z3f (cx [] []) (opsOf (cF (cS c199))).toList (List.range' 2 5) (stB ((11,.tup [.str,.bool] (s,b))::l199 k) ((DRO bR bO).bs (ws,i) o)) [] (zhh [0,1,5,6] [])=some (l199 k++[(5,.data .str s []),(6,.data .bool b [])],(DRO bR bO).bs (ws,i) o):=by kernel_rfl
theorem e199:z29 (cx [] [zai]) (cF (cS (cS c199))) .nil (stB (l199 k++[(5,.data .str s []),(6,.data .bool b [])]) ((DRO bR bO).bs (ws,i) o)) (zqb [0,1,7,8] [])=
 (z6b s).bind fun r=>some (.normal,l199 k++[(7,.data (.int .i64) r.1 []),(8,.data .bool r.2 [])],(DRO bR bO).bs (ws,i) o):=by kernel_rfl
theorem f199:z29 (cx [] []) (cF (cF (cS (cS (cS c199))))) .nil (stB (l199 k++[(7,.data (.int .i64) n []),(8,.data .bool b [])]) ((DRO bR bO).bs (ws,i) o)) (zqb [0,1,7,20] [])=
 some (.normal,l199 k++[(7,.data (.int .i64) n []),(20,.data .bool (!b) [])],(DRO bR bO).bs (ws,i) o):=by kernel_rfl
theorem g199:z3f (cx [] []) (opsOf (cF (cF (cS (cF (cS (cS (cS c199)))))))).toList (List.range' 0 1) (stB (l199 k) ((DRO bR bO).bs (ws,i) o)) [] (zhh [21] [])=some ([(21,.bptr 100 [])],(DRO bR bO).bs (ws,i) o):=by kernel_rfl
theorem h199:z3f (cx [] []) (opsOf (cF (cF (cS (cF (cS (cS (cS c199)))))))).toList (List.range' 2 1) (stB [(22,.data (.ptr TF) (i,7) [])] ((DRO bR bO).bs (ws,i) o)) [] (zhh [4] [])=some ([(4,.data (.ptr TF) (i,7) [])],(DRO bR bO).bs (ws,i) o):=by kernel_rfl
end
theorem i199(bR bO:Nat)(ws:List ByteArray)(i:Int)(o:z00)(n:Int):∀k,z29 (cx [] []) (cS (cS (cS (cS c199)))) .nil (stB (l199 k++[(7,.data (.int .i64) n [])]) ((DRO bR bO).bs (ws,i) o)) (zqb [4] [])=
 some (.ret,[(4,.raw (.pointer none))],(DRO bR bO).bs (ws,wi64 (i+1)) (setK k o n))
 |0=>by kernel_rfl
 |1=>by kernel_rfl
 |2=>by kernel_rfl
 |3=>by kernel_rfl
 |4=>by kernel_rfl
 |5=>by kernel_rfl
 |k+6=>by kernel_rfl
end Go.Lift
namespace Go.Lift
open Go Go.Proofs Go.RowKit
def zt0(M:Mem)(r:Option Int)(v:Value):Prop:=match r with
 |none=>v = .pointer none
 |some j=>relV Tryz.prog (.ptr TF) M (j,7) v
def zqk(bR bO:Nat)(M:Mem)(w:World)(ws:List ByteArray)(r:Option Int)(i':Int)(o':z00)(e:Ending)(w':World):Prop:=
 ∃M' v,e = .returned v∧zt0 M' r v∧Good M' w'∧Fra [bR,bO] M w M' w'∧z4e Tryz.prog M' w' bR TR (ws,i')∧z4e Tryz.prog M' w' bO TO o'
def offK(k:Nat):Nat:=(offV TO (znl k)).getD 0
theorem zwo:∀k:Nat,offV TO (znl k)=some (offK k)
 |0=>rfl
 |1=>rfl
 |2=>rfl
 |3=>rfl
 |4=>rfl
 |5=>rfl
 |k+6=>rfl
noncomputable def z7y(k:Nat)(i:Int)(o:z00):Option Int→Option Int×Int×z00
 |none=>(some i,i,o)
 |some n=>(none,wi64 (i+1),setK k o n)
noncomputable abbrev zrt:Code:=cF (cS c199)
noncomputable abbrev zrs:Code:=cF (cF (cS (cF (cS (cS (cS c199))))))
noncomputable def y3j:Oper:=(opsOf zrt).getD 1 default
noncomputable def y3g:Oper:=(opsOf zrs).getD 1 default
theorem cok127:COk Tryz.prog (cx [] [zai]):=zvp z0x z0y z0z (all_cons (zpc z6z z71) all_nil)
theorem yex:c199 = .seq (cF c199) (.seq zrt (.seq (cF (cS (cS c199))) (.seq (.seq (cF (cF (cS (cS (cS c199))))) (.cond (.tmp 20) (.seq zrs .ret) .skip)) (cS (cS (cS (cS c199))))))):=by kernel_rfl
theorem zn3{D:zxu}{M:Mem}{w:World}{l:z4n}{args:Array Value}{k:Nat}{x:D.t1.den}{y:D.t2.den}(hg:Good M w)(hne:D.g1≠D.g2)(h1:z4e Tryz.prog M w D.g1 D.t1 x)(h2:z4e Tryz.prog M w D.g2 D.t2 y)(h:∀e∈l,e.1 < args.size∧relS Tryz.prog D M e.2 (args.getD e.1 undef)) :
  Two Tryz.prog D M l x y {tmps:=args++Array.replicate k undef,defers:=[]} w:=
 ⟨hg,hne,h1,h2,fun e he=>by
  obtain⟨q1,q2⟩:=h e he;show relS _ _ _ _ ((args++Array.replicate k undef).getD e.1 undef);rw[ztk q1];exact q2⟩
theorem zj8{F:Fence}(hF:Open F)(hro:F.round=none)(n:Nat)(k:Nat){M:Mem}{w:World}{bR bO:Nat}{ws:List ByteArray}{i:Int}{o:z00}{r:Option Int}(hg:Good M w)(hne:bR≠bO)(hR:z4e Tryz.prog M w bR TR (ws,i))(hO:z4e Tryz.prog M w bO TO o)(h0:0≤i)(hrd:zdx ws i=some r) :
  CallsIn F n Tryz.prog 199 #[.pointer (some ⟨bR,0,none⟩),.pointer (some ⟨bO,offK k,none⟩)] w (zqk bR bO M w ws (z7y k i o r).1 (z7y k i o r).2.1 (z7y k i o r).2.2):=by
 unfold zdx at hrd;obtain⟨q,hq,hrd⟩:=qi.1 hrd;simp only[qb] at hrd;refine callsIn_of_wp (c:=c199) Tryz.func199 (by kernel_rfl) (hF.fn 199) ?_ hro;obtain⟨a0,ha0⟩:∃a0:Act,a0={tmps := #[.pointer (some ⟨bR,0,none⟩),.pointer (some ⟨bO,offK k,none⟩)]++Array.replicate (Tryz.f199.ntmps-(#[.pointer (some ⟨bR,0,none⟩),.pointer (some ⟨bO,offK k,none⟩)]:Array Value).size) undef,defers:=[]}:=⟨_,rfl⟩
 rw[←ha0];have hs0:a0.tmps.size=33:=by rw[ha0,Tryz.ntmps199];simp
 have hd0:a0.defers=[]:=by rw[ha0]
 have hT0:Two Tryz.prog (DRO bR bO) M (l199 k) (ws,i) o a0 w:=by
  rw[ha0];refine zn3 (D:=DRO bR bO) hg hne hR hO fun e he => ?_
  simp only[List.mem_cons,List.not_mem_nil,or_false] at he;rcases he with rfl|rfl
  ·exact⟨by show 0 < 2;omega,.inl ⟨rfl,0,rfl,rfl⟩⟩
  ·exact⟨by show 1 < 2;omega,.inr ⟨rfl,offK k,zwo k,rfl⟩⟩
 obtain⟨Q,hQ⟩:∃Q:Ending→World→Prop,Q=zqk bR bO M w ws (z7y k i o r).1 (z7y k i o r).2.1 (z7y k i o r).2.2:=⟨_,rfl⟩
 rw[←hQ];have fin:∀ {M':Mem} {a':Act} {w':World} {i':Int} {o':z00} {l':z4n},Two Tryz.prog (DRO bR bO) M' l' (ws,i') o' a' w'→Fra [bR,bO] M w M' w'→a'.defers=[]→zt0 M' (z7y k i o r).1 (a'.tmps.getD 4 undef)→i'=(z7y k i o r).2.1→o'=(z7y k i o r).2.2→bodyPost Tryz.prog Tryz.f199 Q .ret a' w':=fun hT hf hd hv e1 e2=>by
  subst e1 e2;refine bodyPost_ret (results_tmp (t:=4) (by kernel_rfl) _ _ _) hd ?_;rw[hQ];exact⟨_,_,rfl,hv,hT.good,hf,hT.b1,hT.b2⟩
 rw[yex];refine wpIn_seq (zg2 z02 z25 hF _ (.inr (by kernel_rfl)) (a199 bR bO ws i o k) (by rw[hs0];kernel_rfl) (by kernel_rfl) (by kernel_rfl) rfl hT0 fun M1 a1 w1 hT1 hK1 => ?_);have hs1:=hK1.size.trans hs0;have hd1:=hK1.defers.trans hd0;refine wpIn_seq ?_;rw[show zrt = .region 1 (opsOf zrt) false from by kernel_rfl];refine wpIn_region ?_;have hsz1:(opsOf zrt).size=7:=by kernel_rfl
 refine z7h (n0:=33) (D:=DRO bR bO) z25 hF 0 1 (by rw[Nat.sub_zero,List.range_eq_range']) (by rw[hsz1];decide) (b199 bR bO ws i o k) hs1 (by kernel_rfl) (by kernel_rfl) (by kernel_rfl) rfl hT1 fun M2 a2 w2 hT2 hK2 => ?_
 have hs2:=hK2.size.trans hs1;have hd2:=hK2.defers.trans hd1;have hf2:=hK1.fra.trans hK2.fra;rw[show List.range' (0+1) ((opsOf zrt).size-(0+1))=1::List.range' 2 5 from by rw[hsz1];rfl,wpOpsIn_cons];have hp10:a2.eval (.tmp 10) = .pointer (some ⟨bR,0,none⟩):=by
  rcases hT2.env (10,.bptr 100 []) (by simp) with⟨_,off,h1,h2⟩|⟨h,_⟩
  ·simp only[offV,qb] at h1;subst h1;exact h2
  ·cases h
 refine zj7 hF (o:=y3j) (cc:=za5 y3j) (f:=164) (by kernel_rfl) (z7m (by kernel_rfl)) (by kernel_rfl) (by kernel_rfl) (enters_of (by kernel_rfl)) (by
  rw[show(za5 y3j).args = #[.tmp 10] from by kernel_rfl];simp only[List.map_toArray,List.map_cons,List.map_nil];rw[hp10];exact zgu hF hro (n-1) hT2.good hT2.b1 h0) ?_
 rintro e w3 ⟨M3,rfl,hg3,hf3,hb3⟩;refine⟨_,rfl,?_⟩;rw[show y3j.dst=some 11 from by kernel_rfl];have hf3':Fra [bR,bO] M2 w2 M3 w3:=hf3.sub (by simp);have hT3:=hT2.call (d:=11) (v :=.tup [.str,.bool] (z17 ws i,decide (i < (ws.length:Int)))) (u :=.tuple #[.string (z17 ws i),.bool (decide (i < (ws.length:Int)))]) hf3' hg3 hb3 (hT2.b2.keep hf3 (by simp;exact Ne.symm hne)) (by rw[hs2];decide) ⟨_,rfl,_,_,rfl,z2s.2 rfl,_,rfl,z2f.2 rfl⟩ rfl;refine z7h (n0:=33) (D:=DRO bR bO) z25 hF 2 5 (by rw[hsz1]) (by rw[hsz1];decide) (d199 bR bO ws i o k (z17 ws i) (decide (i < (ws.length:Int)))) ((z4y _ _ _).trans hs2) (by kernel_rfl) (by kernel_rfl) (by kernel_rfl) rfl (hT3.sub (by simp)) fun M4 a4 w4 hT4 hK4 => ?_
 have hs4:=hK4.size.trans ((z4y _ _ _).trans hs2);have hd4:=hK4.defers.trans ((put_defers _ _ _).trans hd2);have hf4:=(hf2.trans hf3').trans hK4.fra;rw[show List.range' (2+5) ((opsOf zrt).size-(2+5))=[] from by rw[hsz1];rfl];show(Code.seq _ _).wpIn F n Tryz.prog _ a4 w4;refine wpIn_seq (zg2 z02 cok127 hF _ (.inr (by kernel_rfl)) ((e199 bR bO ws i o k (z17 ws i) (decide (i < (ws.length:Int)))).trans (by rw[hq];rfl)) (by rw[hs4];kernel_rfl) (by kernel_rfl) (by kernel_rfl) rfl hT4 fun M5 a5 w5 hT5 hK5 => ?_);have hs5:=hK5.size.trans hs4;have hd5:=hK5.defers.trans hd4;have hf5:=hf4.trans hK5.fra;show(Code.seq _ _).wpIn F n Tryz.prog _ a5 w5;refine wpIn_seq (wpIn_seq (zg2 z02 z25 hF _ (.inr (by kernel_rfl)) (f199 bR bO ws i o k q.2 q.1) (by rw[hs5];kernel_rfl) (by kernel_rfl) (by kernel_rfl) rfl hT5 fun M6 a6 w6 hT6 hK6 => ?_));have hs6:=hK6.size.trans hs5;have hd6:=hK6.defers.trans hd5;have hf6:=hf5.trans hK6.fra;refine wpIn_cond_split (z2f.1 (hT6.env (20,.data .bool (!q.2) []) (by simp)).1) (fun ht => ?_) (fun ht=>wpIn_skip ?_)
 ·have ht:q.2=false:=by simpa using ht
  rw[ht,cond_false] at hrd;subst hrd;refine wpIn_seq ?_;rw[show zrs = .region 4 (opsOf zrs) false from by kernel_rfl];refine wpIn_region ?_;have hsz4:(opsOf zrs).size=3:=by kernel_rfl
  refine z7h (n0:=33) (D:=DRO bR bO) z25 hF 0 1 (by rw[Nat.sub_zero,List.range_eq_range']) (by rw[hsz4];decide) (g199 bR bO ws i o k) hs6 (by kernel_rfl) (by kernel_rfl) (by kernel_rfl) rfl (hT6.sub (by simp)) fun M7 a7 w7 hT7 hK7 => ?_
  have hs7:=hK7.size.trans hs6;have hd7:=hK7.defers.trans hd6;have hf7:=hf6.trans hK7.fra;rw[show List.range' (0+1) ((opsOf zrs).size-(0+1))=1::List.range' 2 1 from by rw[hsz4];rfl,wpOpsIn_cons];have hp21:a7.eval (.tmp 21) = .pointer (some ⟨bR,0,none⟩):=by
   rcases hT7.env (21,.bptr 100 []) (by simp) with⟨_,off,h1,h2⟩|⟨h,_⟩
   ·simp only[offV,qb] at h1;subst h1;exact h2
   ·cases h
  refine zj7 hF (o:=y3g) (cc:=za5 y3g) (f:=165) (by kernel_rfl) (z7m (by kernel_rfl)) (by kernel_rfl) (by kernel_rfl) (enters_of (by kernel_rfl)) (by
   rw[show(za5 y3g).args = #[.tmp 21] from by kernel_rfl];simp only[List.map_toArray,List.map_cons,List.map_nil];rw[hp21];exact zhw hF hro (n-1) hT7.good hT7.b1) ?_
  rintro e w8 ⟨M8,v,rfl,hv,hg8,hf8,hb8⟩;refine⟨_,rfl,?_⟩;rw[show y3g.dst=some 22 from by kernel_rfl];have hf8':Fra [bR,bO] M7 w7 M8 w8:=hf8.sub (by simp);have hT8:=hT7.call (d:=22) (v :=.data (.ptr TF) (i,7) []) (u:=v) hf8' hg8 hb8 (hT7.b2.keep hf8 (by simp;exact Ne.symm hne)) (by rw[hs7];decide) ⟨hv,rfl⟩ rfl;refine z7h (n0:=33) (D:=DRO bR bO) z25 hF 2 1 (by rw[hsz4]) (by rw[hsz4];decide) (h199 bR bO ws i o) ((z4y _ _ _).trans hs7) (by kernel_rfl) (by kernel_rfl) (by kernel_rfl) rfl (hT8.sub (by simp)) fun M9 a9 w9 hT9 hK9 => ?_
  rw[show List.range' (2+1) ((opsOf zrs).size-(2+1))=[] from by rw[hsz4];rfl];show Code.ret.wpIn F n Tryz.prog _ a9 w9;refine wpIn_ret ?_;exact fin hT9 ((hf7.trans hf8').trans hK9.fra) (hK9.defers.trans ((put_defers _ _ _).trans hd7)) (hT9.env (4,.data (.ptr TF) (i,7) []) (by simp)).1 rfl rfl
 ·have ht:q.2=true:=by simpa using ht
  rw[ht,cond_true] at hrd;subst hrd;show(cS (cS (cS (cS c199)))).wpIn F n Tryz.prog _ a6 w6;refine zg2 z02 z25 hF _ (.inr (by kernel_rfl)) (i199 bR bO ws i o q.1 k) (by rw[hs6];kernel_rfl) (by kernel_rfl) (by kernel_rfl) rfl (hT6.sub (by simp)) fun M7 a7 w7 hT7 hK7 => ?_
  exact fin hT7 (hf6.trans hK7.fra) (hK7.defers.trans hd6) (hT7.env (4,.raw (.pointer none)) (by simp)) rfl rfl
noncomputable def c236:Code:=Tryz.f236.body.getD .skip
def getK:Nat→z00→Int
 |0,o=>o.2.1
 |1,o=>o.2.2.1
 |2,o=>o.2.2.2.1
 |3,o=>o.2.2.2.2.1
 |4,o=>o.2.2.2.2.2.1.1
 |5,o=>o.2.2.2.2.2.1.2
 |_,o=>o.2.2.2.2.2.2
abbrev l236(k:Nat)(v:Value):z4n:=[(0,.bptr 100 []),(1,.raw v),(2,.bptr 101 (znl k))]
noncomputable abbrev zni:Code:=cF (cS c236)
noncomputable abbrev zng:Code:=cF (cS (cS c236))
noncomputable abbrev znf:Code:=cF (cF (cS (cF (cS (cS (cS c236))))))
section
variable (bR bO:Nat) (ws:List ByteArray) (i:Int) (o:z00) (k:Nat) (s:ByteArray) (b f:Bool) (n:Int) (v:Value)
theorem a236:z29 (cx [] []) (cF c236) .nil (stB (l236 k v) ((DRO bR bO).bs (ws,i) o)) (zqb [0,1,2] [])=some (.normal,l236 k v,(DRO bR bO).bs (ws,i) o):=by kernel_rfl
theorem b236:z3f (cx [] []) (opsOf zni).toList (List.range' 0 1) (stB (l236 k v) ((DRO bR bO).bs (ws,i) o)) [] (zhh [0,1,2,12] [])=some (l236 k v++[(12,.bptr 100 [])],(DRO bR bO).bs (ws,i) o):=by kernel_rfl
theorem d236:z3f (cx [] []) (opsOf zni).toList (List.range' 2 5) (stB ((13,.tup [.str,.bool] (s,b))::l236 k v) ((DRO bR bO).bs (ws,i) o)) [] (zhh [0,1,2,7,8] [])=some (l236 k v++[(7,.data .str s []),(8,.data .bool b [])],(DRO bR bO).bs (ws,i) o):=by kernel_rfl
theorem e236:z3f (cx [] []) (opsOf zng).toList (List.range' 0 2) (stB (l236 k v++[(7,.data .str s []),(8,.data .bool b [])]) ((DRO bR bO).bs (ws,i) o)) [] (zhh [0,1,2,8,17,18] [])=some (l236 k v++[(8,.data .bool b []),(17,.raw v),(18,.data .str s [])],(DRO bR bO).bs (ws,i) o):=by kernel_rfl
theorem f236:z3f (cx [] []) (opsOf zng).toList (List.range' 3 5) (stB ((19,.tup [.int .i64,.bool] (n,f))::(l236 k v++[(8,.data .bool b [])])) ((DRO bR bO).bs (ws,i) o)) [] (zhh [0,2,8,9,10] [])=some ([(0,.bptr 100 []),(2,.bptr 101 (znl k)),(8,.data .bool b []),(9,.data (.int .i64) n []),(10,.data .bool f [])],(DRO bR bO).bs (ws,i) o):=by kernel_rfl
theorem g236:z29 (cx [] []) (cF (cF (cS (cS (cS c236))))) .nil (stB [(0,.bptr 100 []),(2,.bptr 101 (znl k)),(8,.data .bool b []),(9,.data (.int .i64) n []),(10,.data .bool f [])] ((DRO bR bO).bs (ws,i) o)) (zqb [0,2,9,27] [])=
 some (.normal,[(0,.bptr 100 []),(2,.bptr 101 (znl k)),(9,.data (.int .i64) n []),(27,.data .bool (bif !b then true else !f) [])],(DRO bR bO).bs (ws,i) o):=by kernel_rfl
theorem h236:z3f (cx [] []) (opsOf znf).toList (List.range' 0 1) (stB [(0,.bptr 100 [])] ((DRO bR bO).bs (ws,i) o)) [] (zhh [28] [])=some ([(28,.bptr 100 [])],(DRO bR bO).bs (ws,i) o):=by kernel_rfl
theorem i236:z3f (cx [] []) (opsOf znf).toList (List.range' 2 1) (stB [(29,.data (.ptr TF) (i,7) [])] ((DRO bR bO).bs (ws,i) o)) [] (zhh [6] [])=some ([(6,.data (.ptr TF) (i,7) [])],(DRO bR bO).bs (ws,i) o):=by kernel_rfl
end
theorem j236(bR bO:Nat)(ws:List ByteArray)(i:Int)(o:z00)(n:Int):∀k,z29 (cx [] []) (cS (cS (cS (cS c236)))) .nil (stB [(0,.bptr 100 []),(2,.bptr 101 (znl k)),(9,.data (.int .i64) n [])] ((DRO bR bO).bs (ws,i) o)) (zqb [6] [])=
 some (.ret,[(6,.raw (.pointer none))],(DRO bR bO).bs (ws,wi64 (i+1)) (setK k o (wi64 (getK k o*n))))
 |0=>by kernel_rfl
 |1=>by kernel_rfl
 |2=>by kernel_rfl
 |3=>by kernel_rfl
 |4=>by kernel_rfl
 |5=>by kernel_rfl
 |k+6=>by kernel_rfl
end Go.Lift
namespace Go.Lift
open Go Go.Proofs Go.RowKit
noncomputable def ze8(k:Nat)(i:Int)(o:z00):Option Int→Option Int×Int×z00
 |none=>(some i,i,o)
 |some b=>(none,wi64 (i+1),setK k o (wi64 (getK k o*b)))
noncomputable def y3i:Oper:=(opsOf zni).getD 1 default
noncomputable def y3h:Oper:=(opsOf zng).getD 2 default
noncomputable def y3f:Oper:=(opsOf znf).getD 1 default
theorem yew:c236 = .seq (cF c236) (.seq zni (.seq zng (.seq (.seq (cF (cF (cS (cS (cS c236))))) (.cond (.tmp 27) (.seq znf .ret) .skip)) (cS (cS (cS (cS c236))))))):=by kernel_rfl
theorem y4p{F:Fence}(hF:Open F)(hro:F.round=none)(n:Nat)(k:Nat){us:List (ByteArray×Int)}{g cl:Nat}{es:Array MapEntry}{M:Mem}{w:World}{bR bO:Nat}{ws:List ByteArray}{i:Int}{o:z00}(hmap:w.heap[g]?=some (.map es cl))(hrel:z6i .str (.int .i64) us es)(hg:Good M w)(hne:bR≠bO)(hR:z4e Tryz.prog M w bR TR (ws,i))(hO:z4e Tryz.prog M w bO TO o)(h0:0≤i) :
  CallsIn F n Tryz.prog 236 #[.pointer (some ⟨bR,0,none⟩),.map (some g),.pointer (some ⟨bO,offK k,none⟩)] w (zqk bR bO M w ws (ze8 k i o (zbk us ws i)).1 (ze8 k i o (zbk us ws i)).2.1 (ze8 k i o (zbk us ws i)).2.2):=by
 have hgR:g≠bR:=fun e=>by
  obtain⟨⟨cur,E,h,_⟩,_⟩:=hR;rw[e,h] at hmap;cases hmap
 have hgO:g≠bO:=fun e=>by
  obtain⟨⟨cur,E,h,_⟩,_⟩:=hO;rw[e,h] at hmap;cases hmap
 have hgl:=(qd.1 hmap).1;refine callsIn_of_wp (c:=c236) Tryz.func236 (by kernel_rfl) (hF.fn 236) ?_ hro;obtain⟨a0,ha0⟩:∃a0:Act,a0={tmps := #[.pointer (some ⟨bR,0,none⟩),.map (some g),.pointer (some ⟨bO,offK k,none⟩)]++Array.replicate (Tryz.f236.ntmps-(#[.pointer (some ⟨bR,0,none⟩),.map (some g),.pointer (some ⟨bO,offK k,none⟩)]:Array Value).size) undef,defers:=[]}:=⟨_,rfl⟩
 rw[←ha0];have hs0:a0.tmps.size=43:=by rw[ha0,Tryz.ntmps236];simp
 have hd0:a0.defers=[]:=by rw[ha0]
 have hT0:Two Tryz.prog (DRO bR bO) M (l236 k (.map (some g))) (ws,i) o a0 w:=by
  rw[ha0];refine zn3 (D:=DRO bR bO) hg hne hR hO fun e he => ?_
  simp only[List.mem_cons,List.not_mem_nil,or_false] at he;rcases he with rfl|rfl|rfl
  ·exact⟨by show 0 < 3;omega,.inl ⟨rfl,0,rfl,rfl⟩⟩
  ·exact⟨by show 1 < 3;omega,rfl⟩
  ·exact⟨by show 2 < 3;omega,.inr ⟨rfl,offK k,zwo k,rfl⟩⟩
 obtain⟨Q,hQ⟩:∃Q:Ending→World→Prop,Q=zqk bR bO M w ws (ze8 k i o (zbk us ws i)).1 (ze8 k i o (zbk us ws i)).2.1 (ze8 k i o (zbk us ws i)).2.2:=⟨_,rfl⟩
 rw[←hQ];have fin:∀ {M':Mem} {a':Act} {w':World} {i':Int} {o':z00} {l':z4n},Two Tryz.prog (DRO bR bO) M' l' (ws,i') o' a' w'→Fra [bR,bO] M w M' w'→a'.defers=[]→zt0 M' (ze8 k i o (zbk us ws i)).1 (a'.tmps.getD 6 undef)→i'=(ze8 k i o (zbk us ws i)).2.1→o'=(ze8 k i o (zbk us ws i)).2.2→bodyPost Tryz.prog Tryz.f236 Q .ret a' w':=fun hT hf hd hv e1 e2=>by
  subst e1 e2;refine bodyPost_ret (results_tmp (t:=6) (by kernel_rfl) _ _ _) hd ?_;rw[hQ];exact⟨_,_,rfl,hv,hT.good,hf,hT.b1,hT.b2⟩
 rw[yew];refine wpIn_seq (zg2 z02 z25 hF _ (.inr (by kernel_rfl)) (a236 bR bO ws i o k (.map (some g))) (by rw[hs0];kernel_rfl) (by kernel_rfl) (by kernel_rfl) rfl hT0 fun M1 a1 w1 hT1 hK1 => ?_);have hs1:=hK1.size.trans hs0;have hd1:=hK1.defers.trans hd0;refine wpIn_seq ?_;rw[show zni = .region 1 (opsOf zni) false from by kernel_rfl];refine wpIn_region ?_;have hsz1:(opsOf zni).size=7:=by kernel_rfl
 refine z7h (n0:=43) (D:=DRO bR bO) z25 hF 0 1 (by rw[Nat.sub_zero,List.range_eq_range']) (by rw[hsz1];decide) (b236 bR bO ws i o k (.map (some g))) hs1 (by kernel_rfl) (by kernel_rfl) (by kernel_rfl) rfl hT1 fun M2 a2 w2 hT2 hK2 => ?_
 have hs2:=hK2.size.trans hs1;have hd2:=hK2.defers.trans hd1;have hf2:=hK1.fra.trans hK2.fra;rw[show List.range' (0+1) ((opsOf zni).size-(0+1))=1::List.range' 2 5 from by rw[hsz1];rfl,wpOpsIn_cons];have hp10:a2.eval (.tmp 12) = .pointer (some ⟨bR,0,none⟩):=by
  rcases hT2.env (12,.bptr 100 []) (by simp) with⟨_,off,h1,h2⟩|⟨h,_⟩
  ·simp only[offV,qb] at h1;subst h1;exact h2
  ·cases h
 refine zj7 hF (o:=y3i) (cc:=za5 y3i) (f:=164) (by kernel_rfl) (z7m (by kernel_rfl)) (by kernel_rfl) (by kernel_rfl) (enters_of (by kernel_rfl)) (by
  rw[show(za5 y3i).args = #[.tmp 12] from by kernel_rfl];simp only[List.map_toArray,List.map_cons,List.map_nil];rw[hp10];exact zgu hF hro (n-1) hT2.good hT2.b1 h0) ?_
 rintro e w3 ⟨M3,rfl,hg3,hf3,hb3⟩;refine⟨_,rfl,?_⟩;rw[show y3i.dst=some 13 from by kernel_rfl];have hf3':Fra [bR,bO] M2 w2 M3 w3:=hf3.sub (by simp);have hT3:=hT2.call (d:=13) (v :=.tup [.str,.bool] (z17 ws i,decide (i < (ws.length:Int)))) (u :=.tuple #[.string (z17 ws i),.bool (decide (i < (ws.length:Int)))]) hf3' hg3 hb3 (hT2.b2.keep hf3 (by simp;exact Ne.symm hne)) (by rw[hs2];decide) ⟨_,rfl,_,_,rfl,z2s.2 rfl,_,rfl,z2f.2 rfl⟩ rfl;refine z7h (n0:=43) (D:=DRO bR bO) z25 hF 2 5 (by rw[hsz1]) (by rw[hsz1];decide) (d236 bR bO ws i o k (z17 ws i) (decide (i < (ws.length:Int))) (.map (some g))) ((z4y _ _ _).trans hs2) (by kernel_rfl) (by kernel_rfl) (by kernel_rfl) rfl (hT3.sub (by simp)) fun M4 a4 w4 hT4 hK4 => ?_
 have hs4:=hK4.size.trans ((z4y _ _ _).trans hs2);have hd4:=hK4.defers.trans ((put_defers _ _ _).trans hd2);have hf4:=(hf2.trans hf3').trans hK4.fra;rw[show List.range' (2+5) ((opsOf zni).size-(2+5))=[] from by rw[hsz1];rfl];show(Code.seq _ _).wpIn F n Tryz.prog _ a4 w4;refine wpIn_seq ?_;rw[show zng = .region 2 (opsOf zng) false from by kernel_rfl];refine wpIn_region ?_;have hsz2:(opsOf zng).size=8:=by kernel_rfl
 refine z7h (n0:=43) (D:=DRO bR bO) z25 hF 0 2 (by rw[Nat.sub_zero,List.range_eq_range']) (by rw[hsz2];decide) (e236 bR bO ws i o k (z17 ws i) (decide (i < (ws.length:Int))) (.map (some g))) hs4 (by kernel_rfl) (by kernel_rfl) (by kernel_rfl) rfl hT4 fun M5 a5 w5 hT5 hK5 => ?_
 have hs5:=hK5.size.trans hs4;have hd5:=hK5.defers.trans hd4;have hf5:=hf4.trans hK5.fra;have hmap5:w5.heap[g]?=some (.map es cl):=(hf5.block g hgl (by simp[hgR,hgO])).trans hmap;rw[show List.range' (0+2) ((opsOf zng).size-(0+2))=2::List.range' 3 5 from by rw[hsz2];rfl,wpOpsIn_cons];refine zix (o:=y3h) (by kernel_rfl) ?_;rw[z7m (by kernel_rfl),if_pos rfl];refine⟨fun f _=>hF.fn f,?_⟩;have hop2:y3h.op = .lookup 251 (.tmp 17) (.tmp 18) true:=by kernel_rfl
 rw[Oper.semAt_eq _ _ _ (fun c' hc=>by rw[hop2] at hc;cases hc)];have h17:a5.eval (.tmp 17) = .map (some g):=hT5.env (17,.raw (.map (some g))) (by simp);have h18:a5.eval (.tmp 18) = .string (z17 ws i):=z2s.1 (hT5.env (18,.data .str (z17 ws i) []) (by simp)).1;have hlk:=y0q (P:=Tryz.prog) (k :=.str) (v :=.int .i64) rfl rfl (T:=251) (by kernel_rfl) hmap5 hrel (z17 ws i);have hrun:(execOp a5.eval y3h).run Tryz.prog w5 = .ok (.value (.tuple #[.int .i64 (mget .str (.int .i64) us (z17 ws i)),.bool (us.find? fun p=>seqb (z17 ws i) p.1).isSome])) w5:=by
  simp only[execOp,hop2,h17,h18,Sem.run_bind];rw[show(Value.string (z17 ws i))=encS .str (z17 ws i) from rfl,hlk];rfl
 rw[hrun,Oper.uponIn_value,show y3h.dst=some 19 from by kernel_rfl];have hTl:=hT5.call (d:=19) (v :=.tup [.int .i64,.bool] (mget .str (.int .i64) us (z17 ws i),(us.find? fun p=>seqb (z17 ws i) p.1).isSome)) (u :=.tuple #[.int .i64 (mget .str (.int .i64) us (z17 ws i)),.bool (us.find? fun p=>seqb (z17 ws i) p.1).isSome]) Fra.refl hT5.good hT5.b1 hT5.b2 (by rw[hs5];decide) ⟨_,rfl,_,_,rfl,z1n.2 rfl,_,rfl,z2f.2 rfl⟩ rfl;refine z7h (n0:=43) (D:=DRO bR bO) z25 hF 3 5 (by rw[hsz2]) (by rw[hsz2];decide) (f236 bR bO ws i o k (decide (i < (ws.length:Int))) (us.find? fun p=>seqb (z17 ws i) p.1).isSome (mget .str (.int .i64) us (z17 ws i)) (.map (some g))) ((z4y _ _ _).trans hs5) (by kernel_rfl) (by kernel_rfl) (by kernel_rfl) rfl (hTl.sub (by simp)) fun M5' a5' w5' hT5' hK5' => ?_
 have hs5':=hK5'.size.trans ((z4y _ _ _).trans hs5);have hd5':=hK5'.defers.trans ((put_defers _ _ _).trans hd5);have hf5':=hf5.trans hK5'.fra;rw[show List.range' (3+5) ((opsOf zng).size-(3+5))=[] from by rw[hsz2];rfl];show(Code.seq _ _).wpIn F n Tryz.prog _ a5' w5';refine wpIn_seq (wpIn_seq (zg2 z02 z25 hF _ (.inr (by kernel_rfl)) (g236 bR bO ws i o k (decide (i < (ws.length:Int))) (us.find? fun p=>seqb (z17 ws i) p.1).isSome (mget .str (.int .i64) us (z17 ws i))) (by rw[hs5'];kernel_rfl) (by kernel_rfl) (by kernel_rfl) rfl hT5' fun M6 a6 w6 hT6 hK6 => ?_));have hs6:=hK6.size.trans hs5';have hd6:=hK6.defers.trans hd5';have hf6:=hf5'.trans hK6.fra;refine wpIn_cond_split (z2f.1 (hT6.env (27,.data .bool (bif !(decide (i < (ws.length:Int))) then true else !(us.find? fun p=>seqb (z17 ws i) p.1).isSome) []) (by simp)).1) (fun ht => ?_) (fun ht=>wpIn_skip ?_)
 ·have hru:zbk us ws i=none:=by
   unfold zbk y2s;by_cases hi:i < (ws.length:Int)
   ·rw[if_pos hi];rw[decide_eq_true hi] at ht;cases hfd:us.find? fun p=>seqb (z17 ws i) p.1 with
    |none=>rfl
    |some p=>rw[hfd] at ht;cases ht
   ·rw[if_neg hi]
  rw[hru] at fin;refine wpIn_seq ?_;rw[show znf = .region 4 (opsOf znf) false from by kernel_rfl];refine wpIn_region ?_;have hsz4:(opsOf znf).size=3:=by kernel_rfl
  refine z7h (n0:=43) (D:=DRO bR bO) z25 hF 0 1 (by rw[Nat.sub_zero,List.range_eq_range']) (by rw[hsz4];decide) (h236 bR bO ws i o) hs6 (by kernel_rfl) (by kernel_rfl) (by kernel_rfl) rfl (hT6.sub (by simp)) fun M7 a7 w7 hT7 hK7 => ?_
  have hs7:=hK7.size.trans hs6;have hd7:=hK7.defers.trans hd6;have hf7:=hf6.trans hK7.fra;rw[show List.range' (0+1) ((opsOf znf).size-(0+1))=1::List.range' 2 1 from by rw[hsz4];rfl,wpOpsIn_cons];have hp21:a7.eval (.tmp 28) = .pointer (some ⟨bR,0,none⟩):=by
   rcases hT7.env (28,.bptr 100 []) (by simp) with⟨_,off,h1,h2⟩|⟨h,_⟩
   ·simp only[offV,qb] at h1;subst h1;exact h2
   ·cases h
  refine zj7 hF (o:=y3f) (cc:=za5 y3f) (f:=165) (by kernel_rfl) (z7m (by kernel_rfl)) (by kernel_rfl) (by kernel_rfl) (enters_of (by kernel_rfl)) (by
   rw[show(za5 y3f).args = #[.tmp 28] from by kernel_rfl];simp only[List.map_toArray,List.map_cons,List.map_nil];rw[hp21];exact zhw hF hro (n-1) hT7.good hT7.b1) ?_
  rintro e w8 ⟨M8,v,rfl,hv,hg8,hf8,hb8⟩;refine⟨_,rfl,?_⟩;rw[show y3f.dst=some 29 from by kernel_rfl];have hf8':Fra [bR,bO] M7 w7 M8 w8:=hf8.sub (by simp);have hT8:=hT7.call (d:=29) (v :=.data (.ptr TF) (i,7) []) (u:=v) hf8' hg8 hb8 (hT7.b2.keep hf8 (by simp;exact Ne.symm hne)) (by rw[hs7];decide) ⟨hv,rfl⟩ rfl;refine z7h (n0:=43) (D:=DRO bR bO) z25 hF 2 1 (by rw[hsz4]) (by rw[hsz4];decide) (i236 bR bO ws i o) ((z4y _ _ _).trans hs7) (by kernel_rfl) (by kernel_rfl) (by kernel_rfl) rfl (hT8.sub (by simp)) fun M9 a9 w9 hT9 hK9 => ?_
  rw[show List.range' (2+1) ((opsOf znf).size-(2+1))=[] from by rw[hsz4];rfl];show Code.ret.wpIn F n Tryz.prog _ a9 w9;refine wpIn_ret ?_;exact fin hT9 ((hf7.trans hf8').trans hK9.fra) (hK9.defers.trans ((put_defers _ _ _).trans hd7)) (hT9.env (6,.data (.ptr TF) (i,7) []) (by simp)).1 rfl rfl
 ·have hru:zbk us ws i=some (mget .str (.int .i64) us (z17 ws i)):=by
   unfold zbk y2s mget;by_cases hi:i < (ws.length:Int)
   ·rw[if_pos hi];rw[decide_eq_true hi] at ht;cases hfd:us.find? fun p=>seqb (z17 ws i) p.1 with
    |none=>rw[hfd] at ht;cases ht
    |some p=>
     have:us.find? (fun p=>Ty.eqb .str (z17 ws i) p.1)=some p:=hfd;rw[this];rfl
   ·rw[decide_eq_false hi] at ht;cases ht
  rw[hru] at fin;show(cS (cS (cS (cS c236)))).wpIn F n Tryz.prog _ a6 w6;refine zg2 z02 z25 hF _ (.inr (by kernel_rfl)) (j236 bR bO ws i o (mget .str (.int .i64) us (z17 ws i)) k) (by rw[hs6];kernel_rfl) (by kernel_rfl) (by kernel_rfl) rfl (hT6.sub (by simp)) fun M7 a7 w7 hT7 hK7 => ?_
  exact fin hT7 (hf6.trans hK7.fra) (hK7.defers.trans hd6) (hT7.env (6,.raw (.pointer none)) (by simp)) rfl rfl
end Go.Lift
