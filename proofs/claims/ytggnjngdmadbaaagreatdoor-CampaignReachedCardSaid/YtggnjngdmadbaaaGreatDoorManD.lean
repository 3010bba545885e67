/-
  The contract of Cheapest.
-/
import Derived.Test.YtggnjngdmadbaaaGreatDoorManC
set_option linter.unusedSectionVars false
set_option linter.unusedVariables false
set_option linter.unusedSimpArgs false
namespace Go.Lift
open Go Go.Proofs Go.RowKit
noncomputable def c24:Code:=Tryz.f24.body.getD .skip
abbrev TS:Ty :=.seq TI
abbrev ydk:List Ty:=[TI,.int .i64,.int .i64]
abbrev l24(r:z04)(cs:List (List Int)):z4n:=[(7,.data (.ptr z0h) r []),(9,.bptr 9 []),(10,.bptr 10 []),(26,.data TS cs [])]
abbrev b24:Option (List Int×Int)→List (Nat×Box)
 |none=>[(9,⟨41,TI,[],[([],none)],false⟩),(10,⟨3,.int .i64,(0:Int),[],false⟩)]
 |some (s,c)=>[(9,⟨41,TI,s,[],false⟩),(10,⟨3,.int .i64,c,[],false⟩)]
abbrev R24:Type:=(z4n×List (Nat×Box))⊕(List Int×Int×Int)
noncomputable abbrev cx24:Ctx:=cx [] [zd9,zeb,z2j,zah]
noncomputable def K24(e:Ex)(τ:St):Option R24:=match e with
 |.normal=>match frzs [7] τ with
  |some τ'=>some (.inl (obsE [7,9,10,26] [9,10] τ',obsX [9,10] τ'))
  |none=>none
 |.ret=>match results cx24 τ ydk Tryz.f24.results.toList with
  |some x=>some (.inr x)
  |none=>none
 |.exit _=>none
noncomputable def E24(e:Ex)(τ:St):Option (List Int×Int×Int):=match e with
 |.ret=>results cx24 τ ydk Tryz.f24.results.toList
 |_=>none
noncomputable abbrev q24(n:Nat):Code:=Nat.rec c24 (fun _ c=>cS c) n
noncomputable abbrev ycu:Code :=.seq (cF c24) (.seq (cF (q24 1)) (.seq (cF (q24 2)) (.seq (cF (q24 3)) (.seq (cF (q24 4)) (cF (cF (q24 5)))))))
noncomputable def yc5:Code:=match cF (cS (cF (q24 5))) with
 |.rangeFunc _ _ asn _=>asn
 |c=>c
noncomputable def yc2:Code:=match cF (cS (cF (q24 5))) with
 |.rangeFunc _ _ _ c=>c
 |c=>c
noncomputable abbrev rf24:Code :=.rangeFunc (.tmp 26) #[27] yc5 yc2
section
variable (r:z0f) (l:List z03) (x:z04) (s t:List Int) (c:Int) (cs:List (List Int))
theorem h24:z29 cx24 ycu .nil (stOf [(0,.data z0r r []),(1,.data (.slice z09) l [])]) K24=
 (z6r r l).bind fun x=>bif x.2 != 0 then some (.inr ([],0,x.2)) else(z5n (l.length:Int)).bind fun ns=>(z2i x.1 ns).bind fun cs=>some (.inl (l24 x.1 cs,b24 none)):=by kernel_rfl
theorem n24:z29 cx24 yc5 .nil ((stB (l24 x cs) (b24 none)).setD 27 TI s) (fun ex τ=>match ex with
 |.normal=>z29 cx24 yc2 .nil τ (fun ex τ'=>match ex with
  |.normal=>some (obsE [7,9,10,26] [9,10] (τ'.clear (writes rf24)),obsX [9,10] (τ'.clear (writes rf24)))
  |_=>none)
 |_=>none)=(z1x x s).bind fun n=>some (l24 x cs,b24 (some (s,n))):=by kernel_rfl
theorem s24:z29 cx24 yc5 .nil ((stB (l24 x cs) (b24 (some (t,c)))).setD 27 TI s) (fun ex τ=>match ex with
 |.normal=>z29 cx24 yc2 .nil τ (fun ex τ'=>match ex with
  |.normal=>some (obsE [7,9,10,26] [9,10] (τ'.clear (writes rf24)),obsX [9,10] (τ'.clear (writes rf24)))
  |_=>none)
 |_=>none)=(z1x x s).bind fun n=>chk (!t.isEmpty) (bif decide (n < c) then some (l24 x cs,b24 (some (s,n))) else some (l24 x cs,b24 (some (t,c)))):=by kernel_rfl
theorem f24n:z29 cx24 (q24 6) .nil (stB (l24 x cs) (b24 none)) E24=some ([],0,12):=by kernel_rfl
theorem f24s:z29 cx24 (q24 6) .nil (stB (l24 x cs) (b24 (some (t,c)))) E24=chk (!t.isEmpty) (some (t,c,0)):=by kernel_rfl
end
end Go.Lift
namespace Go.Lift
open Go Go.Proofs Go.RowKit
theorem zxf:COk Tryz.prog cx24:=zvp z0x z0y z0z (all_cons zjl (all_cons zo1 (all_cons z3u (all_cons zim all_nil))))
theorem zvv(x:z04):∀(cs:List (List Int)) (d:Option (List Int×Int)),y6g x cs d=zmj (y6f x) cs d
 |[],d=>rfl
 |s::cs,d=>by
  simp only[y6g,zmj];congr 1
  funext d'
  exact zvv x cs d'
theorem step24(x:z04)(cs:List (List Int))(s:List Int)(d:Option (List Int×Int)):z29 cx24 yc5 .nil ((stB (l24 x cs) (b24 d)).setD 27 TI s) (fun ex τ=>match ex with
   |.normal=>z29 cx24 yc2 .nil τ (fun ex τ'=>match ex with
    |.normal=>some (obsE [7,9,10,26] [9,10] (τ'.clear (writes rf24)),obsX [9,10] (τ'.clear (writes rf24)))
    |_=>none)
   |_=>none)=(y6f x s d).map fun d'=>(l24 x cs,b24 d'):=by
 cases d with
 |none=>
  refine(n24 x s cs).trans ?_;unfold y6f;cases z1x x s<;>rfl
 | some c=>
  obtain⟨t,c⟩:=c;refine(s24 x s t c cs).trans ?_;unfold y6f;cases z1x x s with
  |none=>rfl
  | some n=>
   simp only[qh];cases(!t.isEmpty) with
   |false=>rfl
   |true=>
    show(bif decide (n < c) then _ else _)=Option.map _ (bif decide (n < c) then _ else _);cases decide (n < c)<;>rfl
theorem body24:c24 = .seq (cF c24) (.seq (cF (q24 1)) (.seq (cF (q24 2)) (.seq (cF (q24 3)) (.seq (cF (q24 4)) (.seq (.seq (cF (cF (q24 5))) (.block 0 rf24)) (q24 6)))))):=by kernel_rfl
theorem y5s{Γ:Ctx}(hC:COk Tryz.prog Γ){base:Nat}{κ:Nat→Option Nat}{M':Mem}{σ:St}{a:Act}{w':World}{fn:Func}{ts:List Ty}{y:Args ts}{ms:List Nat}{M:Mem}{w:World}(hR:Rel Tryz.prog base κ M' σ a w')(hres:results Γ σ ts fn.results.toList=some y)(hbase:base=w.heap.size)
  (hd:a.defers=ms.map fun D=>{target :=.collected D,args := #[]}) (hn:ms.Nodup) (hm:∀D,D∈ms→w.heap.size≤D∧w'.heap[D]?=some (.deferred (some []))) (hbel:Below w.heap.size w w') (hmem:∀b,b < w.heap.size→M' b=M b) :
  LeavesInM Fence.wide 3 Tryz.prog fn a.tmps (fun e w'=>∃M' v,e = .returned v∧relR Tryz.prog M' ts y v∧Good M' w'∧Grow M w M' w') a.defers .returning w':=by
 subst hbase;rw[hd];refine zfq ms w' hn (fun D hD=>(hm D hD).2) fun w2 hs hrel hbl => ?_
 have hR2:=hrel _ _ _ _ _ hR;obtain⟨v,h4,h5⟩:=y7c hC hR2 hres;exact⟨v,h4,M',v,rfl,h5,hR2.good,hbel.trans (hbl w.heap.size (fun D hD=>(hm D hD).1) hbel.size),hmem⟩
set_option maxHeartbeats 1000000 in
theorem z2k:Has Tryz.prog z3q:=by
 refine⟨enters_of (by kernel_rfl),fun x res hr M w vs hg hvs => ?_⟩;obtain⟨r,l⟩:=x;have hr:z6d r l=some res:=hr;unfold z6d at hr;obtain⟨x,hopen,hr⟩:=qi.1 hr;unfold zdh;refine(callsIn_wide (n:=3)).1 (callsIn_of_wp_marks (c:=c24) Tryz.func24 (by kernel_rfl) True.intro ?_ rfl);obtain⟨rv,_,rfl,hrv,lv,rfl,hlv⟩:=hvs;obtain⟨a0,ha0⟩:∃a0:Act,a0={tmps := #[rv,lv]++Array.replicate (Tryz.f24.ntmps-(#[rv,lv]:Array Value).size) undef,defers:=[]}:=⟨_,rfl⟩
 show c24.wpIn _ _ _ _ {tmps := #[rv,lv]++Array.replicate (Tryz.f24.ntmps-(#[rv,lv]:Array Value).size) undef,defers:=[]} w;rw[←ha0];have hs0:a0.tmps.size=44:=by rw[ha0,Tryz.ntmps24];simp
 have hd0:a0.defers=[]:=by rw[ha0]
 have hT0:Thin Tryz.prog M [(0,.data z0r r []),(1,.data (.slice z09) l [])] a0 w:=by
  rw[ha0];refine zk7 hg fun e he => ?_
  simp only[List.mem_cons,List.not_mem_nil,or_false] at he;rcases he with rfl|rfl
  ·exact⟨by show 0 < 2;omega,hrv,rfl⟩
  ·exact⟨by show 1 < 2;omega,hlv,rfl⟩
 have hop:=z7w;have hh:=h24 r l;rw[hopen,qh] at hh;obtain⟨y,hy,hy1,hy2⟩:∃y:R24,z29 cx24 ycu .nil (stOf [(0,.data z0r r []),(1,.data (.slice z09) l [])]) K24=some y∧(∀z,y = .inr z→z=res)∧
   (∀z,y = .inl z→∃cs dn,z=(l24 x.1 cs,b24 none)∧y6g x.1 cs none=some dn∧z29 cx24 (q24 6) .nil (stB (l24 x.1 cs) (b24 dn)) E24=some res):=by
  cases hc:(x.2 != 0) with
  |true=>
   rw[hc,cond_true] at hh hr;simp only[qb] at hr;exact⟨_,hh,fun z hz=>(by cases hz;exact hr),fun z hz=>by cases hz⟩
  |false=>
   rw[hc,cond_false] at hh hr;obtain⟨ns,h1,hr⟩:=qi.1 hr;obtain⟨cs,h2,hr⟩:=qi.1 hr;obtain⟨dn,h3,hr⟩:=qi.1 hr;rw[h1,qh,h2,qh] at hh;refine⟨_,hh,fun z hz=>(by cases hz),fun z hz => ?_⟩;cases hz;refine⟨cs,dn,rfl,h3,?_⟩;cases dn with
   |none=>exact(f24n x.1 cs).trans hr
   |some c=>exact(f24s x.1 c.1 c.2 cs).trans hr
 obtain⟨Q,hQ⟩:∃Q:Exit→Act→World→Prop,Q=bodyPostM Fence.wide 3 Tryz.prog Tryz.f24 fun e w'=>∃M' v,e = .returned v∧relR Tryz.prog M' z3q.rts res v∧Good M' w'∧Grow M w M' w':=⟨_,rfl⟩
 rw[←hQ];have fin:∀(ms:List Nat) κ' M' σ' a' w',Rel Tryz.prog w.heap.size κ' M' σ' a' w'→zmw w.heap.size M a0 w M' a' w'→(a'.defers=ms.map fun D=>{target :=.collected D,args := #[]})→ms.Nodup→(∀D,D∈ms→w.heap.size≤D∧w'.heap[D]?=some (.deferred (some [])))→results cx24 σ' ydk Tryz.f24.results.toList=some res→Q .ret a' w':=fun ms κ' M' σ' a' w' hR' hk hd hn hm hres=>by
  rw[hQ];exact y5s zxf hR' hres rfl hd hn hm hk.below hk.mem
 have early:∀e κ' M' σ' a' w',e ≠ .normal→Rel Tryz.prog w.heap.size κ' M' σ' a' w'→zmw w.heap.size M a0 w M' a' w'→a'.defers=[]→K24 e σ'=some y→Q (exOf e) a' w':=fun e κ' M' σ' a' w' hne hR' hk hd hK=>by
  cases e with
  |normal=>exact absurd rfl hne
  |exit i=>cases hK
  | ret=>
   simp only[K24] at hK;split at hK
   ·rename_i z hz;simp only[qb] at hK;have:=hy1 z hK.symm;subst this;exact fin [] κ' M' σ' a' w' hR' hk hd List.nodup_nil (fun D hD=>by cases hD) hz
   ·cases hK
 rw[body24];refine zob z02 zxf hop (.inl ⟨rfl,by decide⟩) hy (by rw[hs0];kernel_rfl) (by kernel_rfl) (zfd hT0) (fun κ1 M1 σ1 a1 w1 hR1 hk1 hd1 h1 => ?_) fun e κ1 M1 σ1 a1 w1 hne hR1 hk1 hd1 h1=>early e κ1 M1 σ1 a1 w1 hne hR1 hk1 (hd1.trans hd0) h1
 replace hd1:=hd1.trans hd0
 refine zob z02 zxf hop (.inl ⟨rfl,by decide⟩) h1 (by rw[hk1.size,hs0];kernel_rfl) (by kernel_rfl) hR1 (fun κ2 M2 σ2 a2 w2 hR2 hk2 hd2 h2 => ?_) fun e κ2 M2 σ2 a2 w2 hne hR2 hk2 hd2 h2=>early e κ2 M2 σ2 a2 w2 hne hR2 (hk1.trans hk2) (hd2.trans hd1) h2
 replace hd2:=hd2.trans hd1
 replace hk2:=hk1.trans hk2
 refine zob z02 zxf hop (.inl ⟨rfl,by decide⟩) h2 (by rw[hk2.size,hs0];kernel_rfl) (by kernel_rfl) hR2 (fun κ3 M3 σ3 a3 w3 hR3 hk3 hd3 h3 => ?_) fun e κ3 M3 σ3 a3 w3 hne hR3 hk3 hd3 h3=>early e κ3 M3 σ3 a3 w3 hne hR3 (hk2.trans hk3) (hd3.trans hd2) h3
 replace hd3:=hd3.trans hd2
 replace hk3:=hk2.trans hk3
 refine zob z02 zxf hop (.inl ⟨rfl,by decide⟩) h3 (by rw[hk3.size,hs0];kernel_rfl) (by kernel_rfl) hR3 (fun κ4 M4 σ4 a4 w4 hR4 hk4 hd4 h4 => ?_) fun e κ4 M4 σ4 a4 w4 hne hR4 hk4 hd4 h4=>early e κ4 M4 σ4 a4 w4 hne hR4 (hk3.trans hk4) (hd4.trans hd3) h4
 replace hd4:=hd4.trans hd3
 replace hk4:=hk3.trans hk4
 refine zob z02 zxf hop (.inl ⟨rfl,by decide⟩) h4 (by rw[hk4.size,hs0];kernel_rfl) (by kernel_rfl) hR4 (fun κ5 M5 σ5 a5 w5 hR5 hk5 hd5 h5 => ?_) fun e κ5 M5 σ5 a5 w5 hne hR5 hk5 hd5 h5=>early e κ5 M5 σ5 a5 w5 hne hR5 (hk4.trans hk5) (hd5.trans hd4) h5
 replace hd5:=hd5.trans hd4
 replace hk5:=hk4.trans hk5
 refine wpIn_seq (wpIn_seq (z6a z02 zxf hop _ (.inl ⟨rfl,by decide⟩) h5 (by rw[hk5.size,hs0];kernel_rfl) hR5 fun e κ6 M6 σ6 a6 w6 hR6 hF6 h6 => ?_));have hk6:=hk5.trans (zkr hF6);have hd6:a6.defers=[]:=by
  obtain⟨ms,e1,_,_,e4⟩:=hF6.defers;cases ms with
  |nil=>exact e1.trans hd5
  |cons z l=>exact absurd (e4 (by simp)) (z7z (by kernel_rfl))
 cases e with
 |exit i=>cases h6
 |ret=>exact early .ret κ6 M6 σ6 a6 w6 (by intro h;cases h) hR6 hk6 hd6 h6
 | normal=>
  simp only[K24] at h6;split at h6;rotate_left
  ·cases h6
  rename_i τ hτ;simp only[qb] at h6;obtain⟨cs,dn,hz,hbest,hfin⟩:=hy2 _ h6.symm;simp only[Prod.mk.injEq] at hz;obtain⟨M7,hR7,hF7⟩:=zdv hR6 hτ;have hk7:=hk6.trans (zkr hF7);have hR8:=zwf hR7 [7,9,10,26] [9,10];rw[hz.1,hz.2] at hR8;show(Code.block 0 rf24).wpIn _ _ _ _ a6 w6;refine wpIn_block ?_;refine y7p z02 zxf rfl hop rfl (by decide) (step24 x.1 cs) ((zvv x.1 cs none).symm.trans hbest) (by kernel_rfl) (by kernel_rfl) (by rw[hk6.size,hs0];decide) (by rw[hk6.size,hs0];kernel_rfl) (by rw[hk6.size,hs0];kernel_rfl) (hR8.env 26 _ (show envL (l24 x.1 cs) 26=some (.data TS cs []) from rfl)).1 hR8 fun κ9 M9 a9 w9 D hR9 hk9 hd9 hD hDs htm => ?_
  show(q24 6).wpIn Fence.wide 3 Tryz.prog Q a9 w9;have hk9':=hk7.trans hk9;refine z6a z02 zxf hop _ (.inl ⟨rfl,by decide⟩) hfin (by rw[hk9'.size,hs0];kernel_rfl) hR9 fun e κ10 M10 σ10 a10 w10 hR10 hF10 hk => ?_
  have hk10:=hk9'.trans (zkr hF10);cases e with
  |normal=>cases hk
  |exit i=>cases hk
  | ret=>
   refine fin [D] κ10 M10 σ10 a10 w10 hR10 hk10 ?_ (List.pairwise_singleton _ _) (fun D' hD' => ?_) hk
   ·obtain⟨ms,e1,_,_,e4⟩:=hF10.defers;cases ms with
    |nil=>rw[e1];show a9.defers=_;rw[hd9,hd6];rfl
    |cons z l=>exact absurd (e4 (by simp)) (z7z (by kernel_rfl))
   ·rw[List.mem_singleton.1 hD'];exact⟨Nat.le_trans hk7.below.size hDs,hF10.oth D _ hD rfl⟩
end Go.Lift
