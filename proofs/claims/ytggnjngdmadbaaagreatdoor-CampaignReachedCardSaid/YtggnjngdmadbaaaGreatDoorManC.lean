/-
  The walk of the iterator over all campaigns, and its contract.
-/
import Derived.Test.YtggnjngdmadbaaaGreatDoorManB
import Derived.Test.YtggnjngdmadbaaaGreatDoorFunH
import Derived.Test.YtggnjngdmadbaaaGreatDoorPlainA
set_option maxHeartbeats 2000000
set_option linter.unusedSectionVars false
set_option linter.unusedVariables false
set_option linter.unusedSimpArgs false
namespace Go.Lift
open Go Go.Proofs Go.RowKit
noncomputable def c142:Code:=Tryz.f142.body.getD .skip
noncomputable def zg8:Code:=cF (cF (cS (cF (cS (cS (cS c142))))))
noncomputable def z4x:Code:=cF (cF (cS (cS zg8)))
def opsOf:Code→Array Oper
 |.region _ ops _=>ops
 |_ => #[]
abbrev TI:Ty :=.slice (.int .i64)
noncomputable abbrev yae:Sig:=⟨135,[TI],[TI],fun x=>app [] x⟩
noncomputable abbrev sgIf(t:Bool):Sig:=⟨133,[TI,.int .i64],[.bool],fun _=>some t⟩
noncomputable abbrev yep:Ctx:=y9b y0i y8e y99 [] [135] [z78,yae]
noncomputable abbrev y49(t:Bool):Ctx:=y9b y0i y8e y99 [] [135] [sgIf t,yae]
abbrev l142(r:z04)(b i:List Int)(v:Value):z4n:=[(0,.data z0h r []),(1,.data TI b []),(2,.data TI i []),(3,.raw v)]
abbrev k142(r:z04)(b i:List Int)(v:Value):z4n:=[(1,.data TI b []),(2,.data TI i []),(3,.raw v),(4,.data (.ptr z0h) r [])]
abbrev zf6(r:z04)(b i:List Int)(v:Value)(p:Int):z4n:=[(1,.data TI b []),(2,.data TI i []),(3,.raw v),(4,.data (.ptr z0h) r []),(31,.data TI i []),(32,.data (.int .i64) (i.length:Int) []),(33,.data (.int .i64) p [])]
section
variable (r:z04) (b i:List Int) (v:Value) (p x:Int) (t:Bool)
theorem e0_142:z29 (cx [] []) (cF c142) .nil (stOf (l142 r b i v)) (obsK [4] [1,2,3,4])=some (.normal,k142 r b i v):=by kernel_rfl
theorem e1_142:z29 (cx [] [z3t,z4u]) (cF (cS c142)) (.seq .nil (.cond (.seq .nil (.seq (.frz 9 .nil) .nil)) .nil)) (stOf (k142 r b i v)) (obsK [] [1,2,3,4,8])=
 bif decide ((b.length:Int) > 0) then(z2t r b (wi64 ((b.length:Int)-1))).bind fun o=>(z3p ((List.range 5).map o) true).bind fun t=>bif t then some (.ret,k142 r b i v++[(8,.data .bool true [])]) else some (.normal,k142 r b i v)
 else some (.normal,k142 r b i v):=by kernel_rfl
theorem e2_142:z29 (cx [] []) (cF (cF (cS (cS c142)))) .nil (stOf (k142 r b i v)) (obsK [] [1,2,3,4,27])=some (.normal,k142 r b i v++[(27,.data .bool ((b.length:Int) == (i.length:Int)) [])]):=by kernel_rfl
theorem e3_142:z29 (cx [] []) (cF (cF (cS (cS (cS c142))))) .nil (stOf (k142 r b i v)) (obsK [] [1,2,3,4,31,32,33])=some (.normal,zf6 r b i v 0):=by kernel_rfl
theorem e4_142:z29 (cx [] []) (cS (cS (cS (cS c142)))) .nil (stOf (zf6 r b i v p)) (obsK [] [8])=some (.ret,[(8,.data .bool true [])]):=by kernel_rfl
theorem e6_142:z3f (cx [] []) (opsOf (cF (cF (cS (cF (cS (cS c142))))))).toList (List.range' 0 2) (stOf (k142 r b i v)) [] (obsT [] [28,29])=some [(28,.raw v),(29,.data TI b [])]:=by kernel_rfl
theorem e7_142:z3f (cx [] []) (opsOf (cF (cF (cS (cF (cS (cS c142))))))).toList (List.range' 3 1) (stOf [(30,.data .bool t [])]) [] (obsT [] [8])=some [(8,.data .bool t [])]:=by kernel_rfl
theorem yd0:z29 (cx [] []) (cF zg8) .nil (stOf (zf6 r b i v p)) (obsK [] [1,2,3,4,31,32,33,34])=some (.normal,zf6 r b i v p++[(34,.data .bool (decide (p < (i.length:Int))) [])]):=by kernel_rfl
theorem e9_142:z29 (cx [] []) (cF z4x) .nil (stOf (zf6 r b i v p)) (obsK [] [1,2,3,4,31,32,33,11])=chk (decide (0≤p)&&decide (p < (i.length:Int))) (some (.normal,zf6 r b i v p++[(11,.data (.int .i64) (lget 0 i p) [])])):=by kernel_rfl
theorem ydi:z3f yep (opsOf (cF (cS z4x))).toList (List.range 16) (stOf (zf6 r b i v p++[(11,.data (.int .i64) x [])])) [] (obsG (opsOf (cF (cS z4x))).toList [] [1,2,3,4,31,32,33,52])=
 (slices_Contains_int b x).bind fun t=>z3f (y49 t) (opsOf (cF (cS z4x))).toList (List.range 16) (stOf (zf6 r b i v p++[(11,.data (.int .i64) x [])])) [] (obsG (opsOf (cF (cS z4x))).toList [] [1,2,3,4,31,32,33,52]):=by kernel_rfl
theorem ydb:z3f (y49 true) (opsOf (cF (cS z4x))).toList (List.range 16) (stOf (zf6 r b i v p++[(11,.data (.int .i64) x [])])) [] (obsG (opsOf (cF (cS z4x))).toList [] [1,2,3,4,31,32,33,52])=
 some (zf6 r b i v p++[(52,.data .bool false [])]):=by kernel_rfl
theorem yd9:z3f yep (opsOf (cF (cS z4x))).toList (List.range 13) (stOf (zf6 r b i v p++[(11,.data (.int .i64) x [])])) [] (obsG (opsOf (cF (cS z4x))).toList [] [1,2,3,4,31,32,33,41,42,47,48,49])=
 (slices_Contains_int b x).bind fun t=>z3f (y49 t) (opsOf (cF (cS z4x))).toList (List.range 13) (stOf (zf6 r b i v p++[(11,.data (.int .i64) x [])])) [] (obsG (opsOf (cF (cS z4x))).toList [] [1,2,3,4,31,32,33,41,42,47,48,49]):=by kernel_rfl
theorem yek:z3f (y49 false) (opsOf (cF (cS z4x))).toList (List.range 13) (stOf (zf6 r b i v p++[(11,.data (.int .i64) x [])])) [] (obsG (opsOf (cF (cS z4x))).toList [] [1,2,3,4,31,32,33,41,42,47,48,49])=
 (app [] b).bind fun c=>(app c [x]).bind fun d=>some (zf6 r b i v p++[(41,.data .bool true []),(42,.data z0h r []),(47,.data TI d []),(48,.data TI i []),(49,.raw v)]):=by kernel_rfl
theorem yef:z3f (cx [] []) (opsOf (cF (cS z4x))).toList (List.range' 14 2) (stOf (zf6 r b i v p++[(41,.data .bool true []),(50,.data .bool t [])])) [(5,.quiet),(10,.app none)] (obsG (opsOf (cF (cS z4x))).toList [] [1,2,3,4,31,32,33,52])=
 some (zf6 r b i v p++[(52,.data .bool (!t) [])]):=by kernel_rfl
theorem yen:z29 (cx [] []) (cF (cS (cS z4x))) .nil (stOf (zf6 r b i v p)) (obsK [] [8])=some (.ret,[(8,.data .bool false [])]):=by kernel_rfl
theorem yem:z29 (cx [] []) (cS (cS (cS zg8))) .nil (stOf (zf6 r b i v p)) (obsK [] [1,2,3,4,31,32,33])=some (.normal,zf6 r b i v (wi64 (p+1))):=by kernel_rfl
end
end Go.Lift
namespace Go.Lift
open Go Go.Proofs Go.RowKit
theorem y9a(r:z04)(b i:List Int)(v:Value):z29 (cx [] [z3t,z4u]) (cF (cS c142)) (.seq .nil (.cond (.seq .nil (.seq (.frz 9 .nil) .nil)) .nil)) (stOf (k142 r b i v)) (obsK [] [1,2,3,4,8])=
  (zok r b).bind fun t=>bif t then some (.ret,k142 r b i v++[(8,.data .bool true [])]) else some (.normal,k142 r b i v):=by
 rw[e1_142];unfold zok;cases decide ((b.length:Int) > 0) with
 |false=>rfl
 |true=>
  simp only[cond_true,Option.bind_assoc]
noncomputable abbrev zj3:Code:=cF (cF (cS (cF (cS (cS c142)))))
noncomputable abbrev zru:Code:=cF (cS z4x)
noncomputable def zyx:Oper:=(opsOf zj3).getD 2 default
noncomputable def zsa:Oper:=(opsOf zru).getD 13 default
def za5(o:Oper):Call:=match o.op with
 |.call c=>c
 |_=>default
theorem has135:Has Tryz.prog yae:=zzw (e :=.int .i64) Tryz.laysSlE041_f135 (by kernel_rfl) rfl (by decide) rfl (by kernel_rfl)
theorem fco135:FCo Tryz.prog yae:=y9f (e :=.int .i64) Tryz.laysSlE041_f135 (by kernel_rfl) rfl (by decide) rfl
theorem yd2:COk Tryz.prog yep:=ybt (yer (zvp z0x z0y z0z (all_cons zcv (all_cons has135 all_nil))) (y07 (fun h=>by cases h) (y07 (fun _=>fco135) yca)))
theorem y9e:COk Tryz.prog (cx [] [z3t,z4u]):=zvp z0x z0y z0z (all_cons zgd (all_cons zil all_nil))
section walk
variable {F:Fence} (hd:F.depth=none) (hF:∀f,F.fn f) (hal:F.alive=false) (hro:F.round=none) {n0 l:Nat} {xs:List (List Int)} {J Jx:List (List Int)→Mem→World→Prop}
 (hJg:∀pre N W,J pre N W→Good N W) (hJxg:∀pre N W,Jx pre N W→Good N W) (hJc:z6e J) (hJx:z6e Jx)
 (hY:∀pre x N W1 v,J pre N W1→pre++[x] <+: xs→relV Tryz.prog TI N x v→YieldAt F n0 Tryz.prog l #[v] W1 fun e W'=>
  ∃N',Mem.le N N'∧((e = .returned (.bool true)∧J (pre++[x]) N' W')∨(e = .returned (.bool false)∧Jx (pre++[x]) N' W')))
def zzm(J Jx:List (List Int)→Mem→World→Prop)(xs:List (List Int))(pre L:List (List Int))(M:Mem)(e:Ending)(w':World):Prop:=
 ∃M',Mem.le M M'∧((e = .returned (.bool true)∧J (pre++L) M' w')∨(e = .returned (.bool false)∧∃p,p <+: xs∧Jx p M' w'))
include hJc hJx in
theorem y22{pre L:List (List Int)}{M N:Mem}{e:Ending}{w w':World}(h:∃M',Mem.le M M'∧Mem.le M' N∧((e = .returned (.bool true)∧J (pre++L) M' w)∨(e = .returned (.bool false)∧∃p,p <+: xs∧Jx p M' w))∧Good N w'∧Grow M' w N w'):zzm J Jx xs pre L M e w':=by
 obtain⟨M',h1,h2,h3,h4,h5⟩:=h;refine⟨N,Mem.le_trans h1 h2,h3.imp (fun h=>⟨h.1,hJc _ _ _ _ _ h.2 h4 h5⟩) fun h=>⟨h.1,?_⟩⟩;obtain⟨p,hp,hx⟩:=h.2;exact⟨p,hp,hJx _ _ _ _ _ hx h4 h5⟩
theorem y43{t:Bool}{M':Mem}{l':z4n}{a':Act}{w':World}{R:Ending→World→Prop}(hT:Thin Tryz.prog M' l' a' w')(hm:(8,AVal.data .bool t [])∈l')(hdf:a'.defers=[])(hR:R (.returned (.bool t)) w'):bodyPost Tryz.prog Tryz.f142 R .ret a' w':=by
 refine bodyPost_ret (results_tmp (t:=8) (by kernel_rfl) _ _ _) hdf ?_;have:=z2f.1 (hT.data hm);have e:a'.tmps.getD 8 undef = .bool t:=this;rw[e];exact hR
def zxy(F:Fence)(l:Nat)(xs:List (List Int))(J Jx:List (List Int)→Mem→World→Prop)(r:z04)(i:List Int)(m:Nat):Prop:=
 ∀(b:List Int) (L:List (List Int)),zxm r i m b=some L→b.length+m≤100000→∀(n:Nat) (pre:List (List Int)) (M:Mem) (W:World) (rv bv iv:Value),
  J pre M W→relV Tryz.prog z0h M r rv→relV Tryz.prog TI M b bv→relV Tryz.prog TI M i iv→pre++L <+: xs→
  CallsIn F n Tryz.prog 142 #[rv,bv,iv,.func (.yield l) #[] #[]] W (zzm J Jx xs pre L M)
noncomputable abbrev ydn:Code:=cF (cS (cS z4x))
noncomputable abbrev y7q:Code:=cS (cS (cS zg8))
theorem y9n:cS (cS (cS c142)) = .seq (.seq (cF (cF (cS (cS (cS c142))))) (.block 0 (.loop zg8))) (cS (cS (cS (cS c142)))):=by kernel_rfl
theorem y3r:zg8 = .seq (cF zg8) (.seq (.cond (.tmp 34) .skip (.exit 0)) (.seq (.block 1 (.seq (cF z4x) (.seq zru (.cond (.tmp 52) ydn .skip)))) y7q)):=by kernel_rfl
theorem zk8:(opsOf zru).size=16:=by kernel_rfl
theorem y7o:zru = .region 10 (opsOf zru) true:=by kernel_rfl
theorem y6i:(za5 zsa).args = #[.tmp 42,.tmp 47,.tmp 48,.tmp 49]:=by kernel_rfl
include hd hF hal hro hJg hJxg hJc hJx in
theorem y7a{r:z04}{i:List Int}{m:Nat}(hC:zxy F l xs J Jx r i m){b:List Int}(hlen:b.length+(m+1)≤100000)(hil:i.length≤1000){n:Nat}{pre L:List (List Int)}{M:Mem}(hpre:pre++L <+: xs){R:Ending→World→Prop}(hR:∀e w,zzm J Jx xs pre L M e w→R e w) :
  ∀(ys:List Int) (p:Nat),p+ys.length=i.length→(∀j (hj:j < ys.length),lget 0 i ((p+j:Nat):Int)=ys[j])→∀(D L2:List (List Int)),catM (fun x=>(slices_Contains_int b x).bind fun t=>bif t then some [] else zxm r i m (b++[x])) ys=some L2→D++L2=L→
   ∀(M4:Mem) (a4:Act) (w4:World),Mem.le M M4→Thin Tryz.prog M4 (zf6 r b i (.func (.yield l) #[] #[]) (p:Int)) a4 w4→a4.tmps.size=54→a4.defers=[]→J (pre++D) M4 w4→
   Code.roundsIn F n Tryz.prog zg8 (Exit.inBlock 0 (Exit.then (fun a w=>(cS (cS (cS (cS c142)))).wpIn F n Tryz.prog (bodyPost Tryz.prog Tryz.f142 R) a w) (bodyPost Tryz.prog Tryz.f142 R))) (ys.length+1) a4 w4:=by
 have hop:Open F:=⟨hF,hd,hal⟩
 intro ys;induction ys with
 | nil=>
  intro p hp hy D L2 hcat hDL M4 a4 w4 hle4 hT4 hs4 hd4 hJ4;simp only[catM,qb] at hcat
  subst hcat
  rw[List.append_nil] at hDL;subst hDL;rw[roundsIn_succ,y3r];refine wpIn_seq (zad z02 z25 hop _ (.inr (by kernel_rfl)) (yd0 r b i (.func (.yield l) #[] #[]) (p:Int)) (by rw[hs4];kernel_rfl) (by kernel_rfl) hT4 fun M5 a5 w5 hT5 hK5 => ?_);have hJ5:=hJc _ _ _ _ _ hJ4 hT5.1 hK5.grow;have hs5:a5.tmps.size=54:=hK5.size.trans hs4;have hd5:a5.defers=[]:=hK5.defers.trans hd4;refine wpIn_seq (wpIn_cond_split (z2f.1 (hT5.data (s:=34) (t :=.bool) (x:=decide ((p:Int) < (i.length:Int))) (by simp))) (fun ht => ?_) (fun ht=>wpIn_exit ?_))
  ·simp at hp;simp at ht;omega
  ·show(cS (cS (cS (cS c142)))).wpIn F n Tryz.prog _ a5 w5;refine zad z02 z25 hop _ (.inr (by kernel_rfl)) (e4_142 r b i (.func (.yield l) #[] #[]) (p:Int)) (by rw[hs5];kernel_rfl) (by kernel_rfl) (hT5.sub (by simp)) fun M6 a6 w6 hT6 hK6 => ?_
   exact y43 hT6 (t:=true) (by simp) (hK6.defers.trans hd5) (hR _ _ ⟨M6,Mem.le_trans hle4 (Mem.le_trans hK5.le hK6.le),.inl ⟨rfl,hJc _ _ _ _ _ hJ5 hT6.1 hK6.grow⟩⟩)
 | cons y ys ihy=>
  intro p hp hy D L2 hcat hDL M4 a4 w4 hle4 hT4 hs4 hd4 hJ4;simp only[qk] at hp;have hy0:lget 0 i (p:Int)=y:=by have:=hy 0 (by simp);simpa using this
  have hy':∀j (hj:j < ys.length),lget 0 i (((p+1)+j:Nat):Int)=ys[j]:=fun j hj=>by
   have:=hy (j+1) (by simpa using hj);rw[show p+(j+1)=p+1+j by omega] at this;simpa using this
  simp only[catM] at hcat
  obtain⟨L3,hf,hcat⟩:=qi.1 hcat
  obtain⟨L4,hcat4,hcat⟩:=qi.1 hcat
  simp only[qb] at hcat
  subst hcat
  obtain⟨t,hcon,hf⟩:=qi.1 hf;rw[roundsIn_succ,y3r];refine wpIn_seq (zad z02 z25 hop _ (.inr (by kernel_rfl)) (yd0 r b i (.func (.yield l) #[] #[]) (p:Int)) (by rw[hs4];kernel_rfl) (by kernel_rfl) hT4 fun M5 a5 w5 hT5 hK5 => ?_);have hJ5:=hJc _ _ _ _ _ hJ4 hT5.1 hK5.grow;have hs5:a5.tmps.size=54:=hK5.size.trans hs4;have hd5:a5.defers=[]:=hK5.defers.trans hd4;have hle5:=Mem.le_trans hle4 hK5.le;refine wpIn_seq (wpIn_cond_split (z2f.1 (hT5.data (s:=34) (t :=.bool) (x:=decide ((p:Int) < (i.length:Int))) (by simp))) (fun ht=>wpIn_skip ?_) (fun ht => ?_));rotate_left
  ·simp at ht;omega
  refine wpIn_seq (wpIn_block ?_);have hchk:(decide ((0:Int)≤(p:Int))&&decide ((p:Int) < (i.length:Int)))=true:=by simp;omega
  refine wpIn_seq (zad z02 z25 hop _ (.inr (by kernel_rfl)) ((e9_142 r b i (.func (.yield l) #[] #[]) (p:Int)).trans (by rw[hchk,hy0];rfl)) (by rw[hs5];kernel_rfl) (by kernel_rfl) (hT5.sub (by simp)) fun M6 a6 w6 hT6 hK6 => ?_);have hJ6:=hJc _ _ _ _ _ hJ5 hT6.1 hK6.grow;have hs6:a6.tmps.size=54:=hK6.size.trans hs5;have hd6:a6.defers=[]:=hK6.defers.trans hd5;have hle6:=Mem.le_trans hle5 hK6.le;have next:∀(D':List (List Int)) (M7:Mem) (a7:Act) (w7:World),D'=D++L3→Mem.le M M7→Thin Tryz.prog M7 (zf6 r b i (.func (.yield l) #[] #[]) (p:Int)) a7 w7→a7.tmps.size=54→a7.defers=[]→J (pre++D') M7 w7→
    y7q.wpIn F n Tryz.prog (Exit.then (Code.roundsIn F n Tryz.prog zg8 (Exit.inBlock 0 (Exit.then (fun a w=>(cS (cS (cS (cS c142)))).wpIn F n Tryz.prog (bodyPost Tryz.prog Tryz.f142 R) a w) (bodyPost Tryz.prog Tryz.f142 R))) (ys.length+1)) (Exit.inBlock 0 (Exit.then (fun a w=>(cS (cS (cS (cS c142)))).wpIn F n Tryz.prog (bodyPost Tryz.prog Tryz.f142 R) a w) (bodyPost Tryz.prog Tryz.f142 R)))) a7 w7:=by
   rintro _ M7 a7 w7 rfl hle7 hT7 hs7 hd7 hJ7;refine zad z02 z25 hop _ (.inr (by kernel_rfl)) (yem r b i (.func (.yield l) #[] #[]) (p:Int)) (by rw[hs7];kernel_rfl) (by kernel_rfl) hT7 fun M8 a8 w8 hT8 hK8 => ?_
   show Code.roundsIn F n Tryz.prog zg8 _ (ys.length+1) a8 w8;have hw:wi64 ((p:Int)+1)=((p+1:Nat):Int):=by rw[z2p (by omega) (by omega)];rfl
   rw[hw] at hT8;exact ihy (p+1) (by omega) hy' (D++L3) L4 hcat4 (by rw[List.append_assoc];exact hDL) M8 a8 w8 (Mem.le_trans hle7 hK8.le) hT8 (hK8.size.trans hs7) (hK8.defers.trans hd7) (hJc _ _ _ _ _ hJ7 hT8.1 hK8.grow)
  refine wpIn_seq ?_;rw[y7o];cases t with
  |true=>
   simp only[cond_true,qb] at hf;subst hf;refine y4t z02 yd2 (by rw[zk8];exact(ydi r b i _ _ _).trans (by rw[hcon];exact ydb r b i _ _ _)) hs6 (by kernel_rfl) (by kernel_rfl) hT6 hop fun M7 a7 w7 hT7 hK7 => ?_
   refine wpIn_cond_split (z2f.1 (hT7.data (s:=52) (t :=.bool) (x:=false) (by simp))) (fun ht=>by cases ht) (fun ht=>wpIn_skip ?_);exact next D M7 a7 w7 (by rw[List.append_nil]) (Mem.le_trans hle6 hK7.le) (hT7.sub (by simp)) (hK7.size.trans hs6) (hK7.defers.trans hd6) (hJc _ _ _ _ _ hJ6 hT7.1 hK7.grow)
  | false=>
   simp only[cond_false] at hf;have happ1:app [] b=some b:=by unfold app;rw[if_pos (by simp;omega),List.nil_append]
   have happ2:app b [y]=some (b++[y]):=by unfold app;rw[if_pos (by simp;omega)]
   refine ya7 z02 yd2 (c:=13) (by rw[zk8];decide) (by kernel_rfl) ((yd9 r b i _ _ _).trans (by rw[hcon];exact(yek r b i _ _ _).trans (by rw[happ1,qh,happ2,qh]))) hs6 (by kernel_rfl) (by kernel_rfl) hT6 hop fun fuel' M7 a7 w7 hfu hT7 hK7 => ?_
   have hJ7:=hJc _ _ _ _ _ hJ6 hT7.1 hK7.grow;have hs7:a7.tmps.size=54:=hK7.size.trans hs6;have hd7:a7.defers=[]:=hK7.defers.trans hd6;have hle7:=Mem.le_trans hle6 hK7.le;rw[zk8] at hfu;obtain⟨fuel,rfl⟩:∃fuel,fuel'=fuel+1:=⟨fuel'-1,by omega⟩
   refine yc9 hop (o:=zsa) (cc:=za5 zsa) (f:=142) (by kernel_rfl) (by kernel_rfl) (zr0 (zfd hT7) (by kernel_rfl)) (by kernel_rfl) (by kernel_rfl) (enters_of (by kernel_rfl)) (R:=zzm J Jx xs (pre++D) L3 M7) ?_ ?_
   ·rw[show(za5 zsa).args.map a7.eval = #[a7.eval (.tmp 42),a7.eval (.tmp 47),a7.eval (.tmp 48),a7.eval (.tmp 49)] from by rw[y6i]; simp only[List.map_toArray,List.map_cons,List.map_nil],hT7.raw (s:=49) (v :=.func (.yield l) #[] #[]) (by simp)];exact hC (b++[y]) L3 hf (by simp;omega) (n-1) (pre++D) M7 w7 _ _ _ hJ7 (hT7.data (s:=42) (t:=z0h) (x:=r) (by simp)) (hT7.data (s:=47) (t:=TI) (x:=b++[y]) (by simp)) (hT7.data (s:=48) (t:=TI) (x:=i) (by simp)) (by
     refine List.IsPrefix.trans ?_ hpre;rw[←hDL];exact⟨L4,by simp⟩)
   ·rintro e w8 ⟨M8,hle8,hc⟩;have hw:∃t,e = .returned (.bool t)∧Good M8 w8∧((t=true∧J (pre++D++L3) M8 w8)∨(t=false∧∃p,p <+: xs∧Jx p M8 w8)):=by
     rcases hc with⟨rfl,h⟩|⟨rfl,q,hq,h⟩
     ·exact⟨true,rfl,hJg _ _ _ h,.inl ⟨rfl,h⟩⟩
     ·exact⟨false,rfl,hJxg _ _ _ h,.inr ⟨rfl,q,hq,h⟩⟩
    obtain⟨t,rfl,hg8,hend⟩:=hw;refine⟨_,rfl,?_⟩;rw[show zsa.dst=some 50 from by kernel_rfl];have hT8:Thin Tryz.prog M8 ((50,.data .bool t [])::(zf6 r b i (.func (.yield l) #[] #[]) (p:Int)++[(41,.data .bool true [])])) (a7.put (some 50) (.bool t)) w8:=
     Thin.put ((hT7.turn hg8 hle8).sub (by simp)) (by rw[hs7];decide) ⟨z2f.2 rfl,rfl⟩ rfl
    refine y6w (n0:=54) z25 hop (by rw[zk8];decide) (by rw[zk8];omega) [(5,.quiet),(10,.app none)] (by kernel_rfl) (by rw[zk8];exact yef r b i (.func (.yield l) #[] #[]) (p:Int) t) (by kernel_rfl) (by rw[z4y];exact hs7) (by kernel_rfl) (by kernel_rfl) (hT8.sub (by simp)) fun M9 a9 w9 hT9 hK9 => ?_
    have hs9:a9.tmps.size=54:=hK9.size.trans ((z4y _ _ _).trans hs7);have hd9:a9.defers=[]:=hK9.defers.trans ((put_defers _ _ _).trans hd7);have hle9:=Mem.le_trans hle7 (Mem.le_trans hle8 hK9.le);refine wpIn_cond_split (z2f.1 (hT9.data (s:=52) (t :=.bool) (x := !t) (by simp))) (fun ht => ?_) (fun ht=>wpIn_skip ?_)
    ·
     have ht:t=false:=by simpa using ht
     subst ht;obtain⟨q,hq,hx⟩:∃q,q <+: xs∧Jx q M8 w8:=by
      rcases hend with⟨h,_⟩|⟨_,h⟩
      ·cases h
      ·exact h
     refine zad z02 z25 hop _ (.inr (by kernel_rfl)) (yen r b i (.func (.yield l) #[] #[]) (p:Int)) (by rw[hs9];kernel_rfl) (by kernel_rfl) (hT9.sub (by simp)) fun M10 a10 w10 hT10 hK10 => ?_
     refine y43 hT10 (t:=false) (by simp) (hK10.defers.trans hd9) (hR _ _ ⟨M10,Mem.le_trans hle9 hK10.le,.inr ⟨rfl,q,hq,?_⟩⟩);exact hJx _ _ _ _ _ (hJx _ _ _ _ _ hx hT9.1 hK9.grow) hT10.1 hK10.grow
    ·have ht:t=true:=by simpa using ht
     subst ht;have hJ8:J (pre++D++L3) M8 w8:=by
      rcases hend with⟨_,h⟩|⟨h,_⟩
      ·exact h
      ·cases h
     exact next (D++L3) M9 a9 w9 rfl hle9 (hT9.sub (by simp)) hs9 hd9 (by rw[←List.append_assoc];exact hJc _ _ _ _ _ hJ8 hT9.1 hK9.grow)
include hd hF hal hro hJg hJxg hJc hJx hY in
theorem y71{r:z04}{i:List Int}(hil:i.length≤1000){m:Nat}(ih:∀m',m=m'+1→zxy F l xs J Jx r i m'):zxy F l xs J Jx r i m:=by
 intro b L hL hlen n pre M W rv bv iv hJ hr hb hi hpre;have hop:Open F:=⟨hF,hd,hal⟩
 unfold zxm at hL;cases hbad:zok r b with
 |none=>rw[hbad] at hL;cases hL
 |some bad=>
 rw[hbad,qh] at hL;refine callsIn_of_wp (c:=c142) Tryz.func142 (by kernel_rfl) (hF 142) ?_ hro;obtain⟨a0,ha0⟩:∃a0:Act,a0={tmps := #[rv,bv,iv,.func (.yield l) #[] #[]]++Array.replicate (Tryz.f142.ntmps-(#[rv,bv,iv,.func (.yield l) #[] #[]]:Array Value).size) undef,defers:=[]}:=⟨_,rfl⟩
 rw[←ha0];have hs0:a0.tmps.size=54:=by rw[ha0,Tryz.ntmps142];simp
 have hd0:a0.defers=[]:=by rw[ha0]
 have hT0:Thin Tryz.prog M (l142 r b i (.func (.yield l) #[] #[])) a0 W:=by
  rw[ha0];refine zk7 (hJg _ _ _ hJ) fun e he => ?_
  simp only[List.mem_cons,List.not_mem_nil,or_false] at he;rcases he with rfl|rfl|rfl|rfl
  ·exact⟨by show 0 < 4;omega,hr,rfl⟩
  ·exact⟨by show 1 < 4;omega,hb,rfl⟩
  ·exact⟨by show 2 < 4;omega,hi,rfl⟩
  ·exact⟨by show 3 < 4;omega,rfl⟩
 rw[show c142 = .seq (cF c142) (cS c142) from by kernel_rfl];refine wpIn_seq (zad z02 z25 hop _ (.inr (by kernel_rfl)) (e0_142 r b i (.func (.yield l) #[] #[])) (by rw[hs0];kernel_rfl) (by kernel_rfl) hT0 fun M1 a1 w1 hT1 hK1 => ?_);show(cS c142).wpIn F n Tryz.prog _ a1 w1;have hJ1:=hJc _ _ _ _ _ hJ hT1.1 hK1.grow;have hs1:a1.tmps.size=54:=hK1.size.trans hs0;have hd1:a1.defers=[]:=hK1.defers.trans hd0;rw[show cS c142 = .seq (cF (cS c142)) (cS (cS c142)) from by kernel_rfl];cases bad with
 |true=>
  simp only[cond_true,qb] at hL;subst hL;refine wpIn_seq (zad z02 y9e hop _ (.inr (by kernel_rfl)) ((y9a r b i (.func (.yield l) #[] #[])).trans (by rw[hbad];rfl)) (by rw[hs1];kernel_rfl) (by kernel_rfl) hT1 fun M2 a2 w2 hT2 hK2 => ?_);refine y43 hT2 (t:=true) (by simp) (hK2.defers.trans hd1) ⟨M2,Mem.le_trans hK1.le hK2.le,.inl ⟨rfl,?_⟩⟩;rw[List.append_nil];exact hJc _ _ _ _ _ hJ1 hT2.1 hK2.grow
 |false=>
 rw[cond_false] at hL;refine wpIn_seq (zad z02 y9e hop _ (.inr (by kernel_rfl)) ((y9a r b i (.func (.yield l) #[] #[])).trans (by rw[hbad];rfl)) (by rw[hs1];kernel_rfl) (by kernel_rfl) hT1 fun M2 a2 w2 hT2 hK2 => ?_);show(cS (cS c142)).wpIn F n Tryz.prog _ a2 w2;have hJ2:=hJc _ _ _ _ _ hJ1 hT2.1 hK2.grow;have hs2:a2.tmps.size=54:=hK2.size.trans hs1;have hd2:a2.defers=[]:=hK2.defers.trans hd1;have hle2:=Mem.le_trans hK1.le hK2.le;rw[show cS (cS c142) = .seq (.seq (cF (cF (cS (cS c142)))) (.cond (.tmp 27) (.seq zj3 .ret) .skip)) (cS (cS (cS c142))) from by kernel_rfl];refine wpIn_seq (wpIn_seq (zad z02 z25 hop _ (.inr (by kernel_rfl)) (e2_142 r b i (.func (.yield l) #[] #[])) (by rw[hs2];kernel_rfl) (by kernel_rfl) hT2 fun M3 a3 w3 hT3 hK3 => ?_));have hJ3:=hJc _ _ _ _ _ hJ2 hT3.1 hK3.grow;have hs3:a3.tmps.size=54:=hK3.size.trans hs2;have hd3:a3.defers=[]:=hK3.defers.trans hd2;have hle3:=Mem.le_trans hle2 hK3.le;refine wpIn_cond_split (z2f.1 (hT3.data (s:=27) (t :=.bool) (x:=((b.length:Int) == (i.length:Int))) (by simp))) (fun ht => ?_) (fun ht=>wpIn_skip ?_)
 ·
  rw[ht,cond_true,qb] at hL;subst hL;refine wpIn_seq ?_;rw[show zj3 = .region 6 (opsOf zj3) false from by kernel_rfl];refine wpIn_region ?_;refine zr3 z25 hop 0 2 (by rw[Nat.sub_zero,List.range_eq_range']) (by rw[show(opsOf zj3).size=4 from by kernel_rfl];decide) (e6_142 r b i (.func (.yield l) #[] #[])) hs3 (by kernel_rfl) (by kernel_rfl) (hT3.sub (by simp)) fun M4 a4 w4 hT4 hK4 => ?_
  have hJ4:=hJc _ _ _ _ _ hJ3 hT4.1 hK4.grow;have hs4:a4.tmps.size=54:=hK4.size.trans hs3;have hd4:a4.defers=[]:=hK4.defers.trans hd3;have hle4:=Mem.le_trans hle3 hK4.le;rw[show List.range' (0+2) ((opsOf zj3).size-(0+2))=2::List.range' 3 1 from by rw[show(opsOf zj3).size=4 from by kernel_rfl];rfl];refine yaz hop hro (o:=zyx) (cc:=za5 zyx) (s:=28) (l:=l) (by kernel_rfl) (by kernel_rfl) (by kernel_rfl) (by kernel_rfl) (hT4.raw (by simp))
   (R:=fun e W'=>∃N',Mem.le M4 N'∧((e = .returned (.bool true)∧J (pre++[b]) N' W')∨(e = .returned (.bool false)∧Jx (pre++[b]) N' W'))) ?_ ?_
  ·rw[show(za5 zyx).args.map a4.eval = #[a4.eval (.tmp 29)] from by rw[show(za5 zyx).args = #[.tmp 29] from by kernel_rfl]; simp only[List.map_toArray,List.map_cons,List.map_nil]];exact zu1 hd _ (hY pre b M4 w4 _ hJ4 hpre (hT4.data (by simp)))
  ·rintro e W5 ⟨N5,hle5,hc⟩;have hw:∃t,e = .returned (.bool t)∧Good N5 W5∧((Ending.returned (.bool t) = .returned (.bool true)∧J (pre++[b]) N5 W5)∨(Ending.returned (.bool t) = .returned (.bool false)∧∃p,p <+: xs∧Jx p N5 W5)):=by
    rcases hc with⟨rfl,h⟩|⟨rfl,h⟩
    ·exact⟨true,rfl,hJg _ _ _ h,.inl ⟨rfl,h⟩⟩
    ·exact⟨false,rfl,hJxg _ _ _ h,.inr ⟨rfl,_,hpre,h⟩⟩
   obtain⟨t,rfl,hg5,hend⟩:=hw;refine⟨_,rfl,?_⟩;rw[show zyx.dst=some 30 from by kernel_rfl];have hT5:Thin Tryz.prog N5 [(30,.data .bool t [])] (a4.put (some 30) (.bool t)) W5:=Thin.put (l:=[]) ⟨hg5,fun e he=>by cases he⟩ (by rw[hs4];decide) ⟨z2f.2 rfl,rfl⟩ rfl;refine zr3 (n0:=54) z25 hop 3 1 (by rw[show(opsOf zj3).size=4 from by kernel_rfl]) (by rw[show(opsOf zj3).size=4 from by kernel_rfl];decide) (e7_142 t) (by rw[z4y];exact hs4) (by kernel_rfl) (by kernel_rfl) hT5 fun M6 a6 w6 hT6 hK6 => ?_
   rw[show List.range' (3+1) ((opsOf zj3).size-(3+1))=[] from by rw[show(opsOf zj3).size=4 from by kernel_rfl];rfl];show Code.ret.wpIn F n Tryz.prog _ a6 w6;refine wpIn_ret ?_;exact y43 hT6 (t:=t) (by simp) ((hK6.defers.trans (put_defers _ _ _)).trans hd4) (y22 hJc hJx ⟨N5,Mem.le_trans hle4 hle5,hK6.le,hend,hT6.1,hK6.grow⟩)
 ·rw[ht,cond_false] at hL;cases m with
  |zero=>cases hL
  |succ m=>
  simp only at hL;show(cS (cS (cS c142))).wpIn F n Tryz.prog _ a3 w3;rw[y9n];refine wpIn_seq (wpIn_seq (zad z02 z25 hop _ (.inr (by kernel_rfl)) (e3_142 r b i (.func (.yield l) #[] #[])) (by rw[hs3];kernel_rfl) (by kernel_rfl) (hT3.sub (by simp)) fun M4 a4 w4 hT4 hK4 => ?_));refine wpIn_block (wpIn_loop_rounds (i.length+1) ?_);have hlg:∀j (hj:j < i.length),lget 0 i ((0+j:Nat):Int)=i[j]:=fun j hj=>by
   rw[Nat.zero_add];unfold lget;simp[List.getD_eq_getElem?_getD,hj]
  exact y7a hd hF hal hro hJg hJxg hJc hJx (ih m rfl) hlen hil hpre (fun _ _ h=>h) i 0 (by omega) hlg [] L hL rfl M4 a4 w4 (Mem.le_trans hle3 hK4.le) hT4 (hK4.size.trans hs3) (hK4.defers.trans hd3) (by rw[List.append_nil];exact hJc _ _ _ _ _ hJ3 hT4.1 hK4.grow)
include hd hF hal hro hJg hJxg hJc hJx hY in
theorem y9d{r:z04}{i:List Int}(hil:i.length≤1000):∀m,zxy F l xs J Jx r i m
 |0=>y71 hd hF hal hro hJg hJxg hJc hJx hY hil fun m' h=>by cases h
 |m+1=>y71 hd hF hal hro hJg hJxg hJc hJx hY hil fun m' h=>by cases h;exact y9d hil m
end walk
end Go.Lift
namespace Go.Lift
open Go Go.Proofs Go.RowKit
noncomputable def c84:Code:=Tryz.f84.body.getD .skip
noncomputable def c141:Code:=Tryz.f141.body.getD .skip
def obsC(e:Ex)(τ:St):Option (Nat×List Cap):=match e with
 |.ret=>match τ.env 4 with
  |some (.clo g caps)=>some (g,caps)
  |_=>none
 |_=>none
theorem e84(r:z04)(i:List Int):z29 (cx [] []) c84 (.seq .nil (.seq (.frz 2 (.frz 3 .nil)) .nil)) (stOf [(0,.data z0h r []),(1,.data TI i [])]) obsC=some (141,[.inr ⟨z0h,r⟩,.inr ⟨TI,i⟩]):=by kernel_rfl
theorem e141(r:z04)(i:List Int)(v:Value):z3f (cx [] []) (opsOf c141).toList (List.range' 0 3) (stOf [(0,.raw v),(1,.data (.ptr z0h) r []),(2,.data (.ptr TI) i [])]) [] (obsT [] [4,5,6])=some [(4,.data z0h r []),(5,.data TI i []),(6,.raw v)]:=by kernel_rfl
noncomputable def o141:Oper:=(opsOf c141).getD 3 default
theorem yf0:(za5 o141).args = #[.tmp 4,.const (.slice none 0 0),.tmp 5,.tmp 6]:=by kernel_rfl
theorem z7m{o:Oper}{f:Nat→Option Bool}(h:o.guard=none):Region.wanted o f=true:=by unfold Region.wanted;rw[h]
theorem ti_nil{M:Mem}:relV Tryz.prog TI M ([]:List Int) (.slice none 0 0):=by
 unfold relV z0o;simp only[Ty.agg,Bool.false_eq_true,if_false];exact⟨_,rfl,.inl ⟨rfl,rfl⟩⟩
theorem seq141{r:z04}{i:List Int}{L:List (List Int)}(hil:i.length≤1000)(hL:zxm r i (i.length+1) []=some L){M:Mem}{u v:Value}(hu:relV Tryz.prog (.ptr z0h) M r u)(hv:relV Tryz.prog (.ptr TI) M i v) :
  y0a Tryz.prog (fun M' x v=>z0o TI.agg (relC Tryz.prog TI M' x) v) M L 141 #[u,v]:=by
 refine⟨Go.Proofs.enters_of Tryz.func141 (by kernel_rfl) rfl,?_⟩;intro F n l J Jx M0 W hM hd hF hal hro hJg hJxg hJc hJx hY h0;have hop:Open F:=⟨hF,hd,hal⟩
 show CallsIn F n Tryz.prog 141 #[.func (.yield l) #[] #[],u,v] W _;refine callsIn_of_wp (c:=c141) Tryz.func141 (by kernel_rfl) (hF 141) ?_ hro;obtain⟨a0,ha0⟩:∃a0:Act,a0={tmps := #[.func (.yield l) #[] #[],u,v]++Array.replicate (Tryz.f141.ntmps-(#[.func (.yield l) #[] #[],u,v]:Array Value).size) undef,defers:=[]}:=⟨_,rfl⟩
 rw[←ha0];have hs0:a0.tmps.size=8:=by rw[ha0,Tryz.ntmps141];simp
 have hd0:a0.defers=[]:=by rw[ha0]
 have hT0:Thin Tryz.prog M0 [(0,.raw (.func (.yield l) #[] #[])),(1,.data (.ptr z0h) r []),(2,.data (.ptr TI) i [])] a0 W:=by
  rw[ha0];refine zk7 (hJg _ _ _ h0) fun e he => ?_
  simp only[List.mem_cons,List.not_mem_nil,or_false] at he;rcases he with rfl|rfl|rfl
  ·exact⟨by show 0 < 3;omega,rfl⟩
  ·exact⟨by show 1 < 3;omega,z18 hM hu,rfl⟩
  ·exact⟨by show 2 < 3;omega,z18 hM hv,rfl⟩
 rw[show c141 = .region 0 (opsOf c141) false from by kernel_rfl];refine wpIn_region ?_;have hsz:(opsOf c141).size=4:=by kernel_rfl
 refine zr3 (n0:=8) z25 hop 0 3 (by rw[Nat.sub_zero,List.range_eq_range']) (by rw[hsz];decide) (e141 r i (.func (.yield l) #[] #[])) hs0 (by kernel_rfl) (by kernel_rfl) hT0 fun M1 a1 w1 hT1 hK1 => ?_
 have hJ1:=hJc _ _ _ _ _ h0 hT1.1 hK1.grow;rw[show List.range' (0+3) ((opsOf c141).size-(0+3))=[3] from by rw[hsz];rfl,wpOpsIn_cons];refine zj7 hop (o:=o141) (cc:=za5 o141) (f:=142) (by kernel_rfl) (z7m (by kernel_rfl)) (by kernel_rfl) (by kernel_rfl) (enters_of (by kernel_rfl)) (R:=zzm J Jx L [] L M1) ?_ ?_
 ·rw[yf0];simp only[List.map_toArray,List.map_cons,List.map_nil];rw[hT1.raw (s:=6) (v :=.func (.yield l) #[] #[]) (by simp)];exact y9d (n0:=n-1) hd hF hal hro hJg hJxg hJc hJx hY hil (i.length+1) [] L hL (by simp;omega) (n-1) [] M1 w1 _ _ _ hJ1 (hT1.data (s:=4) (t:=z0h) (x:=r) (by simp)) ti_nil (hT1.data (s:=5) (t:=TI) (x:=i) (by simp)) (by simp)
 ·rintro e w2 ⟨M2,hle2,hc⟩;have hend:∃t,e = .returned (.bool t):=by
   rcases hc with⟨rfl,_⟩|⟨rfl,_⟩<;>exact⟨_,rfl⟩
  obtain⟨t,rfl⟩:=hend;refine⟨_,rfl,?_⟩;refine bodyPost_end (results_none (by kernel_rfl) _ _ _) (by rw[put_defers];exact hK1.defers.trans hd0) ?_;refine⟨⟨_,rfl⟩,M2,Mem.le_trans hK1.le hle2,?_⟩;rcases hc with⟨_,h⟩|⟨_,q,hq,h⟩
  ·exact .inl (by simpa using h)
  ·exact .inr ⟨q,hq,h⟩
theorem z3u:Has Tryz.prog z2j:=by
 refine⟨enters_of (by kernel_rfl),fun x L hr M w vs hg hvs => ?_⟩;obtain⟨r,i⟩:=x;obtain⟨rv,_,rfl,hrv,iv,rfl,hiv⟩:=hvs;have hr:z2i r i=some L:=hr;unfold z2i at hr;cases hc:decide (i.length≤1000) with
 |false=>rw[hc] at hr;cases hr
 |true=>
 rw[hc,cond_true] at hr;rw[decide_eq_true_eq] at hc;refine(callsIn_wide (n:=3)).1 ?_;refine callsIn_of_wp (c:=c84) Tryz.func84 (by kernel_rfl) True.intro ?_ rfl;obtain⟨a0,ha0⟩:∃a0:Act,a0={tmps := #[rv,iv]++Array.replicate (Tryz.f84.ntmps-(#[rv,iv]:Array Value).size) undef,defers:=[]}:=⟨_,rfl⟩
 show c84.wpIn _ _ _ _ {tmps := #[rv,iv]++Array.replicate (Tryz.f84.ntmps-(#[rv,iv]:Array Value).size) undef,defers:=[]} w;rw[←ha0];have hs0:a0.tmps.size=6:=by rw[ha0,Tryz.ntmps84];simp
 have hd0:a0.defers=[]:=by rw[ha0]
 have hT0:Thin Tryz.prog M [(0,.data z0h r []),(1,.data TI i [])] a0 w:=by
  rw[ha0];refine zk7 hg fun e he => ?_
  simp only[List.mem_cons,List.not_mem_nil,or_false] at he;rcases he with rfl|rfl
  ·exact⟨by show 0 < 2;omega,hrv,rfl⟩
  ·exact⟨by show 1 < 2;omega,hiv,rfl⟩
 refine z6a z02 z25 z7w c84 (.inr (by kernel_rfl)) (e84 r i) (by rw[hs0];kernel_rfl) (zfd hT0) fun e κ' M' σ' a' w' hR' hF' hk => ?_
 have hk':=zp9 hF' (z7z (by kernel_rfl));unfold obsC at hk;split at hk
 ·split at hk
  ·rename_i g caps hev;simp only[qb,Prod.mk.injEq] at hk;obtain⟨rfl,rfl⟩:=hk;obtain⟨cs,hcv,v1,r1,hcs,h1,v2,r2,hcs2,h2,hcs3⟩:=hR'.env 4 _ hev;subst hcs3 hcs2;have hcs':cs = #[v1,v2]:=Array.ext' hcs;subst hcs';refine bodyPost_ret (results_tmp (t:=4) (by kernel_rfl) _ _ _) (hk'.defers.trans hd0) ?_;refine⟨M',_,rfl,?_,hR'.good,hk'.grow⟩;show relV Tryz.prog (.seq TI) M' L (a'.tmps.getD 4 undef);rw[hcv];exact⟨141,#[v1,v2],rfl,seq141 hc hr h1 h2⟩
  ·cases hk
 ·cases hk
end Go.Lift
