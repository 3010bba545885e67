/-
  The contract of Cheapest.
-/
import Derived.Test.YtggnjngdmadbaaaGreatDoorManC
set_option linter.all false
namespace Go.Lift
open Go Go.Proofs Go.RowKit
noncomputable def c24:Code:=Tryz.f24.body.getD .skip
abbrev TS:Ty :=.seq TI
abbrev PB:List Ty:=[TI,.int .i64,.int .i64]
abbrev FJ(r:Qk)(cs:List (List Int)):Qi:=[(7,.data (.ptr Xf) r []),(9,.bptr 9 []),(10,.bptr 10 []),(26,.data TS cs [])]
abbrev EE:Option (List Int×Int)→List (Nat×Box)
 |none=>[(9,⟨41,TI,[],[([],none)],false⟩),(10,⟨3,.int .i64,(0:Int),[],false⟩)]
 |some (s,c)=>[(9,⟨41,TI,s,[],false⟩),(10,⟨3,.int .i64,c,[],false⟩)]
abbrev R24:Type:=(Qi×List (Nat×Box))⊕(List Int×Int×Int)
noncomputable abbrev YN:QW:=cx [] [Rz,zel,z7t,zal]
noncomputable def sD(e:Ex)(τ:St):Option R24:=match e with
 |.normal=>match X7 [7] τ with
  |some τ'=>some (.inl (Y5 [7,9,10,26] [9,10] τ',ZO [9,10] τ'))
  |none=>none
 |.ret=>match results YN τ PB Tryz.f24.results.toList with
  |some x=>some (.inr x)
  |none=>none
 |.exit _=>none
noncomputable def MZ(e:Ex)(τ:St):Option (List Int×Int×Int):=match e with
 |.ret=>results YN τ PB Tryz.f24.results.toList
 |_=>none
noncomputable abbrev Jl(n:Nat):Code:=Nat.rec c24 (fun _ c=>cS c) n
noncomputable abbrev ye2:Code :=.seq (cF c24) (.seq (cF (Jl 1)) (.seq (cF (Jl 2)) (.seq (cF (Jl 3)) (.seq (cF (Jl 4)) (cF (cF (Jl 5)))))))
noncomputable def uY:Code:=match cF (cS (cF (Jl 5)))with
 |.rangeFunc _ _ asn _=>asn
 |c=>c
noncomputable def u0:Code:=match cF (cS (cF (Jl 5)))with
 |.rangeFunc _ _ _ c=>c
 |c=>c
noncomputable abbrev Ji:Code :=.rangeFunc (.tmp 26) #[27] uY u0
section
variable (r:Vv) (l:List Ql) (x:Qk) (s t:List Int) (c:Int) (cs:List (List Int))
theorem h24:vY YN ye2 .nil (wR [(0,.data Jc r []),(1,.data (.slice Yy) l [])]) sD=
 (bP r l).bind fun x=>bif x.2 !=0 then some (.inr ([],0,x.2))else(iG (l.length:Int)).bind fun ns=>(iQ x.1 ns).bind fun cs=>some (.inl (FJ x.1 cs,EE none)):=by kernel_rfl
theorem n24:vY YN uY .nil ((Qc (FJ x cs) (EE none)).setD 27 TI s) (fun ex τ=>match ex with
 |.normal=>vY YN u0 .nil τ (fun ex τ'=>match ex with
  |.normal=>some (Y5 [7,9,10,26] [9,10] (τ'.clear (writes Ji)),ZO [9,10] (τ'.clear (writes Ji)))
  |_=>none)
 |_=>none)=(C8 x s).bind fun n=>some (FJ x cs,EE (some (s,n))):=by kernel_rfl
theorem s24:vY YN uY .nil ((Qc (FJ x cs) (EE (some (t,c)))).setD 27 TI s) (fun ex τ=>match ex with
 |.normal=>vY YN u0 .nil τ (fun ex τ'=>match ex with
  |.normal=>some (Y5 [7,9,10,26] [9,10] (τ'.clear (writes Ji)),ZO [9,10] (τ'.clear (writes Ji)))
  |_=>none)
 |_=>none)=(C8 x s).bind fun n=>chk (!t.isEmpty) (bif decide (n<c)then some (FJ x cs,EE (some (s,n)))else some (FJ x cs,EE (some (t,c)))):=by kernel_rfl
theorem MD:vY YN (Jl 6) .nil (Qc (FJ x cs) (EE none)) MZ=some ([],0,12):=by kernel_rfl
theorem MC:vY YN (Jl 6) .nil (Qc (FJ x cs) (EE (some (t,c)))) MZ=chk (!t.isEmpty) (some (t,c,0)):=by kernel_rfl
end
end Go.Lift
namespace Go.Lift
open Go Go.Proofs Go.RowKit
theorem CD:Qw Tryz.prog YN:=gr vU vT vS (all_cons zjw (all_cons zop (all_cons zfb (all_cons ziu all_nil))))
theorem LG(x:Qk):∀(cs:List (List Int)) (d:Option (List Int×Int)),iU x cs d=HI (iV x) cs d
 |[],d=>rfl
 |s::cs,d=>by
  simp only[iU,HI];congr 1
  funext d'
  exact LG x cs d'
theorem cO(x:Qk)(cs:List (List Int))(s:List Int)(d:Option (List Int×Int)):vY YN uY .nil ((Qc (FJ x cs) (EE d)).setD 27 TI s) (fun ex τ=>match ex with
   |.normal=>vY YN u0 .nil τ (fun ex τ'=>match ex with
    |.normal=>some (Y5 [7,9,10,26] [9,10] (τ'.clear (writes Ji)),ZO [9,10] (τ'.clear (writes Ji)))
    |_=>none)
   |_=>none)=(iV x s d).map fun d'=>(FJ x cs,EE d'):=by
 cases d with
 |none=>
  refine(n24 x s cs).trans ?_;unfold iV;cases C8 x s<;>rfl
 |some c=>
  obtain⟨t,c⟩:=c;refine(s24 x s t c cs).trans ?_;unfold iV;cases C8 x s with
  |none=>rfl
  |some n=>
   simp only[qh];cases(!t.isEmpty)with
   |false=>rfl
   |true=>
    show(bif decide (n<c)then _ else _)=Option.map _ (bif decide (n<c)then _ else _);cases decide (n<c)<;>rfl
theorem fR:c24 = .seq (cF c24) (.seq (cF (Jl 1)) (.seq (cF (Jl 2)) (.seq (cF (Jl 3)) (.seq (cF (Jl 4)) (.seq (.seq (cF (cF (Jl 5))) (.block 0 Ji)) (Jl 6)))))):=by kernel_rfl
theorem y6p{Γ:QW}(hC:Qw Tryz.prog Γ){base:Nat}{κ:Nat→Option Nat}{M':Mem}{σ:St}{a:Act}{w':World}{fn:Func}{ts:List Ty}{y:vx ts}{ms:List Nat}{M:Mem}{w:World}(hR:jW Tryz.prog base κ M' σ a w')(ZD:results Γ σ ts fn.results.toList=some y)(rH:base=w.heap.size)
  (hd:a.defers=ms.map fun D=>{target :=.collected D,args := #[]}) (hn:ms.Nodup) (hm:∀D,D∈ms→w.heap.size≤D∧w'.heap[D]?=some (.deferred (some []))) (Yj:Below w.heap.size w w') (vu:∀b,b<w.heap.size→M' b=M b):
  LeavesInM Fence.wide 3 Tryz.prog fn a.tmps (fun e w'=>∃M' v,e = .returned v∧VC Tryz.prog M' ts y v∧Good M' w'∧vm M w M' w') a.defers .returning w':=by
 subst rH;rw[hd];refine ud ms w' hn (fun D hD=>(hm D hD).2) fun w2 hs hrel Fm =>?_
 have wG:=hrel _ _ _ _ _ hR;obtain⟨v,h4,h5⟩:=y8b hC wG ZD;exact⟨v,h4,M',v,rfl,h5,wG.good,Yj.trans (Fm w.heap.size (fun D hD=>(hm D hD).1) Yj.size),vu⟩
set_option maxHeartbeats 1000000 in
theorem cb:Has Tryz.prog nI:=by
 refine⟨enters_of (by kernel_rfl),fun x res hr M w vs hg Q3 =>?_⟩;obtain⟨r,l⟩:=x;have hr:nz r l=some res:=hr;unfold nz at hr;obtain⟨x,pm,hr⟩:=qi.1 hr;unfold CK;refine(xZ (n:=3)).1 (kJ (c:=c24) Tryz.func24 (by kernel_rfl) True.intro ?_ rfl);obtain⟨rv,_,rfl,NT,lv,rfl,SR⟩:=Q3;obtain⟨a0,Zt⟩:∃a0:Act,a0={tmps := #[rv,lv]++Array.replicate (Tryz.f24.ntmps-(#[rv,lv]:Array Value).size) undef,defers:=[]}:=⟨_,rfl⟩
 show c24.wpIn _ _ _ _ {tmps := #[rv,lv]++Array.replicate (Tryz.f24.ntmps-(#[rv,lv]:Array Value).size) undef,defers:=[]} w;rw[←Zt];have QY:a0.tmps.size=44:=by rw[Zt,Tryz.ntmps24];simp
 have VT:a0.defers=[]:=by rw[Zt]
 have Wt:Thin Tryz.prog M [(0,.data Jc r []),(1,.data (.slice Yy) l [])] a0 w:=by
  rw[Zt];refine tY hg fun e he =>?_
  simp only[qF,yb,ka]at he;rcases he with rfl|rfl
  ·exact⟨by show 0<2;omega,NT,rfl⟩
  ·exact⟨by show 1<2;omega,SR,rfl⟩
 have jx:=ET;have hh:=h24 r l;rw[pm,qh]at hh;obtain⟨y,hy,hy1,hy2⟩:∃y:R24,vY YN ye2 .nil (wR [(0,.data Jc r []),(1,.data (.slice Yy) l [])]) sD=some y∧(∀z,y = .inr z→z=res)∧
   (∀z,y = .inl z→∃cs dn,z=(FJ x.1 cs,EE none)∧iU x.1 cs none=some dn∧vY YN (Jl 6) .nil (Qc (FJ x.1 cs) (EE dn)) MZ=some res):=by
  cases hc:(x.2 !=0)with
  |true=>
   rw[hc,qv]at hh hr;simp only[qb]at hr;exact⟨_,hh,fun z hz=>(by cases hz;exact hr),fun z hz=>by cases hz⟩
  |false=>
   rw[hc,qu]at hh hr;obtain⟨ns,h1,hr⟩:=qi.1 hr;obtain⟨cs,h2,hr⟩:=qi.1 hr;obtain⟨dn,h3,hr⟩:=qi.1 hr;rw[h1,qh,h2,qh]at hh;refine⟨_,hh,fun z hz=>(by cases hz),fun z hz =>?_⟩;cases hz;refine⟨cs,dn,rfl,h3,?_⟩;cases dn with
   |none=>exact(MD x.1 cs).trans hr
   |some c=>exact(MC x.1 c.1 c.2 cs).trans hr
 obtain⟨Q,hQ⟩:∃Q:Exit→Act→World→Prop,Q=bodyPostM Fence.wide 3 Tryz.prog Tryz.f24 fun e w'=>∃M' v,e = .returned v∧VC Tryz.prog M' nI.rts res v∧Good M' w'∧vm M w M' w':=⟨_,rfl⟩
 rw[←hQ];have fin:∀(ms:List Nat) κ' M' σ' a' w',jW Tryz.prog w.heap.size κ' M' σ' a' w'→zni w.heap.size M a0 w M' a' w'→(a'.defers=ms.map fun D=>{target :=.collected D,args := #[]})→ms.Nodup→(∀D,D∈ms→w.heap.size≤D∧w'.heap[D]?=some (.deferred (some [])))→results YN σ' PB Tryz.f24.results.toList=some res→Q .ret a' w':=fun ms κ' M' σ' a' w' j4 hk hd hn hm ZD=>by
  rw[hQ];exact y6p CD j4 ZD rfl hd hn hm hk.below hk.mem
 have early:∀e κ' M' σ' a' w',e ≠ .normal→jW Tryz.prog w.heap.size κ' M' σ' a' w'→zni w.heap.size M a0 w M' a' w'→a'.defers=[]→sD e σ'=some y→Q (YM e) a' w':=fun e κ' M' σ' a' w' ju j4 hk hd hK=>by
  cases e with
  |normal=>exact absurd rfl ju
  |exit i=>cases hK
  |ret=>
   simp only[sD]at hK;split at hK
   ·rename_i z hz;simp only[qb]at hK;have:=hy1 z hK.symm;subst this;exact fin [] κ' M' σ' a' w' j4 hk hd xn (fun D hD=>by cases hD) hz
   ·cases hK
 rw[fR];refine mq vi CD jx (.inl ⟨rfl,by decide⟩) hy (by rw[QY];kernel_rfl) (by kernel_rfl) (Ar Wt) (fun κ1 M1 σ1 a1 w1 Yk XF wN h1 =>?_) fun e κ1 M1 σ1 a1 w1 ju Yk XF wN h1=>early e κ1 M1 σ1 a1 w1 ju Yk XF (wN.trans VT) h1
 replace wN:=wN.trans VT
 refine mq vi CD jx (.inl ⟨rfl,by decide⟩) h1 (by rw[XF.size,QY];kernel_rfl) (by kernel_rfl) Yk (fun κ2 M2 σ2 a2 w2 wG VR QL h2 =>?_) fun e κ2 M2 σ2 a2 w2 ju wG VR QL h2=>early e κ2 M2 σ2 a2 w2 ju wG (XF.trans VR) (QL.trans wN) h2
 replace QL:=QL.trans wN
 replace VR:=XF.trans VR
 refine mq vi CD jx (.inl ⟨rfl,by decide⟩) h2 (by rw[VR.size,QY];kernel_rfl) (by kernel_rfl) wG (fun κ3 M3 σ3 a3 w3 BQ ep BK h3 =>?_) fun e κ3 M3 σ3 a3 w3 ju BQ ep BK h3=>early e κ3 M3 σ3 a3 w3 ju BQ (VR.trans ep) (BK.trans QL) h3
 replace BK:=BK.trans QL
 replace ep:=VR.trans ep
 refine mq vi CD jx (.inl ⟨rfl,by decide⟩) h3 (by rw[ep.size,QY];kernel_rfl) (by kernel_rfl) BQ (fun κ4 M4 σ4 a4 w4 Me Dz HC h4 =>?_) fun e κ4 M4 σ4 a4 w4 ju Me Dz HC h4=>early e κ4 M4 σ4 a4 w4 ju Me (ep.trans Dz) (HC.trans BK) h4
 replace HC:=HC.trans BK
 replace Dz:=ep.trans Dz
 refine mq vi CD jx (.inl ⟨rfl,by decide⟩) h4 (by rw[Dz.size,QY];kernel_rfl) (by kernel_rfl) Me (fun κ5 M5 σ5 a5 w5 Md ap FV h5 =>?_) fun e κ5 M5 σ5 a5 w5 ju Md ap FV h5=>early e κ5 M5 σ5 a5 w5 ju Md (Dz.trans ap) (FV.trans HC) h5
 replace FV:=FV.trans HC
 replace ap:=Dz.trans ap
 refine zq (zq (EV vi CD jx _ (.inl ⟨rfl,by decide⟩) h5 (by rw[ap.size,QY];kernel_rfl) Md fun e κ6 M6 σ6 a6 w6 hR6 hF6 h6 =>?_));have FSx:=ap.trans (gL hF6);have DK:a6.defers=[]:=by
  obtain⟨ms,e1,_,_,e4⟩:=hF6.defers;cases ms with
  |nil=>exact e1.trans FV
  |cons z l=>exact absurd (e4 (by simp)) (ES (by kernel_rfl))
 cases e with
 |exit i=>cases h6
 |ret=>exact early .ret κ6 M6 σ6 a6 w6 (by intro h;cases h) hR6 FSx DK h6
 |normal=>
  simp only[sD]at h6;split at h6;rotate_left
  ·cases h6
  rename_i τ hτ;simp only[qb]at h6;obtain⟨cs,dn,hz,rG,Q9⟩:=hy2 _ h6.symm;simp only[qX]at hz;obtain⟨M7,hR7,hF7⟩:=CW hR6 hτ;have hk7:=FSx.trans (gL hF7);have Mc:=sO hR7 [7,9,10,26] [9,10];rw[hz.1,hz.2]at Mc;show(Code.block 0 Ji).wpIn _ _ _ _ a6 w6;refine xx ?_;refine y8o vi CD rfl jx rfl (by decide) (cO x.1 cs) ((LG x.1 cs none).symm.trans rG) (by kernel_rfl) (by kernel_rfl) (by rw[FSx.size,QY];decide) (by rw[FSx.size,QY];kernel_rfl) (by rw[FSx.size,QY];kernel_rfl) (Mc.env 26 _ (show F0 (FJ x.1 cs) 26=some (.data TS cs []) from rfl)).1 Mc fun κ9 M9 a9 w9 D hR9 hk9 S4 hD hDs SJ =>?_
  show(Jl 6).wpIn Fence.wide 3 Tryz.prog Q a9 w9;have pO:=hk7.trans hk9;refine EV vi CD jx _ (.inl ⟨rfl,by decide⟩) Q9 (by rw[pO.size,QY];kernel_rfl) hR9 fun e κ10 M10 σ10 a10 w10 Mg fl hk =>?_
  have Ov:=pO.trans (gL fl);cases e with
  |normal=>cases hk
  |exit i=>cases hk
  |ret=>
   refine fin [D] κ10 M10 σ10 a10 w10 Mg Ov ?_ (xK _ _) (fun D' Ke =>?_) hk
   ·obtain⟨ms,e1,_,_,e4⟩:=fl.defers;cases ms with
    |nil=>rw[e1];show a9.defers=_;rw[S4,DK];rfl
    |cons z l=>exact absurd (e4 (by simp)) (ES (by kernel_rfl))
   ·rw[qE.1 Ke];exact⟨ze hk7.below.size hDs,fl.oth D _ hD rfl⟩
end Go.Lift
