/-
  Drawn regions of many operations; a range over a method value.
-/
import Derived.RegionTactic
import Derived.Test.YtggnjngdmadbaaaGreatDoorLiftM
set_option linter.all false
abbrev yq:=@Go.wpOp_step
namespace Go.Lift
open Go Go.RowKit
variable [wB] [Mf]
variable {P:Program} {jA:Array Oper} {Q:Exit→Act→World→Prop}
theorem Dg{a b:Nat}(h:a≠b):Nat.beq a b=false:=by
 cases hb:Nat.beq a b with
 |false=>rfl
 |true=>exact absurd (qq hb) h
theorem yg7(VS:Ad 0 jA.toList=true)(I:(Nat→Bool)→Act→World→Prop)
  (step:∀L a w k o,jA[k]?=some o→L k=false→(∀e∈o.after,WY e=true→L e.on=true)→I L a w→wpOp P jA Q k (fun a' w'=>I (fun j=>L j||Nat.beq j k) a' w') a w)
  (fin:∀L a w,(∀k,k<jA.size→L k=true)→I L a w→Q .normal a w):
  ∀(vC:Nat) (jD:Array Bool) (l:List Nat) (a:Act) (w:World),jD.size=jA.size→l.length≤vC→l.Pairwise (· < ·)→(∀k,k∈l↔k<jA.size∧jD.getD k true=false)→I (fun k=>jD.getD k false) a w→wpAny P .any jA Q vC jD a w:=by
 have done:∀{jD:Array Bool} {l:List Nat},jD.size=jA.size→l.Pairwise (· < ·)→(∀k,k∈l↔k<jA.size∧jD.getD k true=false)→Region.ready .any jA jD=[]→l=[]:=by
  intro jD l vQ Vg vu hr;cases l with
  |nil=>rfl
  |cons i l=>
   exfalso;obtain⟨Gf,Fi⟩:=(vu i).1 (by simp);have:i∈Region.ready .any jA jD:=ji.2 ⟨Fi,jA[i],qZ Gf,fun e he hb=>by
    rw[CY]at hb;have hlt:=tH VS (show jA.toList[i]?=some jA[i] by rw[zh];exact qZ Gf) e he hb;cases hg:jD.getD e.on true with
    |true=>
     have hs:e.on<jD.size:=by omega
     simp only[qw,qZ hs,qO]at hg⊢;exact hg
    |false=>
     have hm:=(vu e.on).2 ⟨by omega,hg⟩;rcases qF.1 hm with h|h
     ·omega
     ·have:=yY Vg h;omega⟩
   rw[hr]at this;simp at this
 have all:∀{jD:Array Bool},jD.size=jA.size→(∀k,k∈([]:List Nat)↔k<jA.size∧jD.getD k true=false)→∀k,k<jA.size→jD.getD k false=true:=fun{jD} vQ vu k hk=>by
  cases hg:jD.getD k true with
  |false=>exact absurd ((vu k).2 ⟨hk,hg⟩) (by simp)
  |true=>
   have hs:k<jD.size:=by omega
   simp only[qw,qZ hs,qO]at hg⊢;exact hg
 intro vC;induction vC with
 |zero=>
  intro jD l a w vQ jH Vg vu hI;have hl:l=[]:=xf.1 (by omega);subst hl;refine⟨?_,fin _ a w (all vQ vu) hI⟩;cases hr:Region.ready .any jA jD with
  |nil=>rfl
  |cons i r=>
   have hi:=ji.1 (show i∈Region.ready .any jA jD by rw[hr];simp);obtain⟨h1,o,ho,_⟩:=hi;have:=(vu i).2 ⟨(qd.1 ho).1,h1⟩;simp at this
 |succ vC ih=>
  intro jD l a w vQ jH Vg vu hI;refine⟨fun hr =>?_,fun i hi =>?_⟩
  ·have:=done vQ Vg vu hr;subst this;exact fin _ a w (all vQ vu) hI
  ·obtain⟨Gf,oi,ag,vc⟩:=ji.1 hi;have Wp:=(qd.1 ag).1;have pT:=(vu i).2 ⟨Wp,Gf⟩;obtain⟨L1,L2,hL⟩:=kV pT;subst hL;have Jv:=Vg;rw[xH]at Jv;obtain⟨pc,ab,Cu⟩:=Jv;have hs:i<jD.size:=by omega
   have hLi:jD.getD i false=false:=by
    simp only[qw,qZ hs,qO]at Gf⊢;exact Gf
   have h:=step (fun k=>jD.getD k false) a w i oi ag hLi (fun e he hb=>vc e he (by rw[CY];exact hb)) hI;have pw:∀a' w',I (fun j=>jD.getD j false||Nat.beq j i) a' w'→wpAny P .any jA Q vC (jD.setIfInBounds i true) a' w':=fun a' w' hI'=>by
    have JA:i∉L1:=fun h=>xi _ (Cu i h i (by simp))
    have Jz:i∉L2:=fun h=>xi _ (yY ab h)
    refine ih _ (L1++L2) a' w' (by simp[vQ]) (by simp only[qe,qk]at jH⊢;omega) ?_ (fun k =>?_) ?_
    ·rw[xH];exact⟨pc,(List.pairwise_cons.1 ab).2,fun x hx y hy=>Cu x hx y (qo _ hy)⟩
    ·by_cases Wn:k=i
     ·subst Wn;have:(jD.setIfInBounds k true).getD k true=true:=by
       simp[qw,yQ hs]
      rw[this];simp[JA,Jz]
     ·rw[yN true (fun e=>Wn e.symm)];rw[←vu k];simp[Wn]
    ·have:(fun k=>(jD.setIfInBounds i true).getD k false)=fun j=>jD.getD j false||Nat.beq j i:=by
      funext k
      by_cases Wn:k=i
      ·subst Wn;rw[ym,Bool.or_true];simp[qw,yQ hs]
      ·rw[yN false (fun e=>Wn e.symm),show Nat.beq k i=false from Dg Wn,xj]
     rw[this];exact hI'
   exact wpOp_mono pw h
def Ww(o:Oper)(j:Nat):Bool:=o.after.toList.any fun e=>WY e&&Nat.beq e.on j
def y57(jA:List Oper):Bool:=(List.range jA.length).all fun i=>(List.range jA.length).all fun j=>Nat.beq i j||(match(jA[i]?).bind Oper.dst,(jA[j]?).bind Oper.dst with
 |some d,some d' => !(Nat.beq d d')
 |_,_=>true)
theorem y5f(hm:P.follows .mixedOrders=true){id c:Nat}(VS:Ad 0 jA.toList=true)(af:y57 jA.toList=true){oc:Oper}(SO:jA[c]?=some oc)(hc:c+1=jA.size)(pL:((List.range c).all fun k=>Ww oc k)=true){a0:Act}{w0:World}(S:Nat→Value→World→Prop)(C:Nat→Option Nat)(J:World→Prop)(T:World→Prop)(cT:Nat)
  (h0:J w0.drew) (Wt:T w0.drew) (stT:∀w w',Below w.heap.size w w'→T w→T w') (Dk:∀d,d∈QE jA.toList→d<a0.tmps.size)
  (stJ:∀w w',Below w.heap.size w w'→J w→J w') (stS:∀j u w w',Below w.heap.size w w'→S j u w→S j u w')
  (step:∀k o,k<c→jA[k]?=some o→∀a w,J w→a.tmps.size=a0.tmps.size→a.defers=a0.defers→(∀s,s∉QE jA.toList→a.tmps.getD s undef=a0.tmps.getD s undef)→
   (∀j oj d,jA[j]?=some oj→oj.dst=some d→Ww o j=true→(C j=none∨C j=some k)→S j (a.tmps.getD d undef) w)→((k=cT∨∃o',jA[cT]?=some o'∧Ww o' k=true)→T w)→
   wpOp P jA Q k (fun a' w'=>∃v,a'=a.put o.dst v∧(o.dst≠none→S k v w')∧(Below w.heap.size w w'∨(J w'∧(k≠cT→T w→T w')∧∀j oj u,jA[j]?=some oj→j≠k→C j≠some k→Ww oj k=false→S j u w→S j u w'))) a w)
  (fin:∀a w,J w→a.tmps.size=a0.tmps.size→a.defers=a0.defers→(∀s,s∉QE jA.toList→a.tmps.getD s undef=a0.tmps.getD s undef)→
   (∀k o d,k<c→jA[k]?=some o→o.dst=some d→C k=none→S k (a.tmps.getD d undef) w)→wpOp P jA Q c (fun a' w'=>Q .normal a' w') a w):
  (Code.region id jA true).wp P Q a0 w0:=by
 have S2:∀{k:Nat} {o:Oper} {d:Nat},jA[k]?=some o→o.dst=some d→d∈QE jA.toList:=fun{k o d} ho hd=>CL (by rw[zh];exact ho) d (by rw[hd])
 have Gb:∀{i j:Nat} {oi oj:Oper} {d:Nat},jA[i]?=some oi→jA[j]?=some oj→oi.dst=some d→oj.dst=some d→i=j:=fun{i j oi oj d} hi hj eH hdj=>by
  by_cases X3:i=j
  ·exact X3
  ·exfalso;unfold y57 at af;have li:=(qd.1 hi).1;have lj:=(qd.1 hj).1;have h1:=qW.1 (qW.1 af i (xp.2 (by simpa using li))) j (xp.2 (by simpa using lj));rw[zh,zh,hi,hj,show Nat.beq i j=false from Dg X3,yF]at h1;simp only[qh,eH,hdj,ym,zi]at h1;cases h1
 refine wp_region_any hm ?_;refine yg7 VS (fun L a w=>(∀j oj,jA[j]?=some oj→L j=true→∀e∈oj.after,WY e=true→L e.on=true)∧(L c=true→(∀k,k<jA.size→L k=true)∧Q .normal a w)∧(L c=false→J w∧(L cT=false→T w)∧a.tmps.size=a0.tmps.size∧a.defers=a0.defers∧(∀s,s∉QE jA.toList→a.tmps.getD s undef=a0.tmps.getD s undef)∧
  ∀k o d,jA[k]?=some o→o.dst=some d→L k=true→(∀c,C k=some c→L c=false)→S k (a.tmps.getD d undef) w)) ?_ ?_ jA.size _ (List.range jA.size) a0 w0.drew (by simp) (by simp) kl (fun k =>?_) ?_
 ·rintro L a w k o ho rZ vc ⟨ZR,wN,QL⟩;have rz:∀j oj,jA[j]?=some oj→(fun j=>L j||Nat.beq j k) j=true→∀e∈oj.after,WY e=true→(fun j=>L j||Nat.beq j k) e.on=true:=fun j oj hj hL e he hb=>by
   by_cases HB:j=k
   ·subst HB;rw[ho]at hj;cases hj;simp only[vc e he hb,Bool.true_or]
   ·simp only[Dg HB,xj]at hL;simp only[ZR j oj hj hL e he hb,Bool.true_or]
  have hkn:=(qd.1 ho).1;cases hLc:L c with
  |true=>have:=(wN hLc).1 k hkn;rw[rZ]at this;cases this
  |false=>
  obtain⟨hJ,rQ,h1,h2,h3,h4⟩:=QL hLc;by_cases hkc:k=c
  ·subst hkc;rw[ho]at SO;cases SO;have hL:∀j,j<k→L j=true:=fun j hj=>by
    have:=qW.1 pL j (xp.2 hj);unfold Ww at this;obtain⟨e,he,hb⟩:=zI.1 this;rw[qg]at hb;have:=vc e (by simpa using he) hb.1;rwa [qq hb.2]at this
   refine wpOp_mono ?_ (fin a w hJ h1 h2 h3 fun j oj d hj hoj hd hcj=>h4 j oj d hoj hd (hL j hj) fun c hcc=>by rw[hcj]at hcc;cases hcc);intro a' w' hQ;refine⟨rz,fun _=>⟨fun j hj =>?_,hQ⟩,fun h =>?_⟩
   ·by_cases HB:j=k
    ·subst HB;simp only[ym,Bool.or_true]
    ·simp only[hL j (by omega),Bool.true_or]
   ·simp only[ym,Bool.or_true]at h;cases h
  ·refine wpOp_mono ?_ (step k o (by omega) ho a w hJ h1 h2 h3 (fun j oj d hj hd rq hC=>h4 j oj d hj hd ?_ fun c hc =>?_) fun hk=>rQ ?_)
   ·rintro a' w' ⟨v,rfl,hS,Zd⟩;have hJ':J w':=Zd.elim (fun h=>stJ _ _ h hJ) And.left;refine⟨rz,fun h =>?_,fun _=>⟨hJ',fun hT =>?_,by rw[KZ];exact h1,by rw[put_defers];exact h2,fun s hs =>?_,fun j oj d hj hd hL hc =>?_⟩⟩
    ·simp only[hLc,Dg (yL hkc),xj]at h;cases h
    ·simp only[zX]at hT;have SW:k≠cT:=fun e=>by rw[e,ym]at hT;cases hT.2
     exact Zd.elim (fun h=>stT _ _ h (rQ hT.1)) fun h=>h.2.1 SW (rQ hT.1)
    ·rw[Eg _ _ _ _ fun e=>hs (S2 ho e)];exact h3 s hs
    ·by_cases HB:j=k
     ·subst HB;rw[ho]at hj;cases hj;rw[hd,mH a d v (by rw[h1];exact Dk d (S2 ho hd))];exact hS (by rw[hd];simp)
     ·simp only[Dg HB,xj]at hL;have Vi:C j≠some k:=fun e=>by
       have:=hc k e;simp only[ym,Bool.or_true]at this;cases this
      have hb:=h4 j oj d hj hd hL fun c he=>by
       have:=hc c he;simp only[zX]at this;exact this.1
      rw[Eg _ _ _ _ fun e=>HB (Gb hj ho hd e)];refine Zd.elim (fun h=>stS _ _ _ _ h hb) fun h=>h.2.2 j oj _ hj HB Vi ?_ hb
      cases hdk:Ww oj k with
      |false=>rfl
      |true=>
       exfalso;unfold Ww at hdk;obtain⟨e,he,Kw⟩:=zI.1 hdk;rw[qg]at Kw;have:=ZR j oj hj hL e (by simpa using he) Kw.1;rw[qq Kw.2,rZ]at this;cases this
   ·unfold Ww at rq;obtain⟨e,he,hb⟩:=zI.1 rq;rw[qg]at hb;have:=vc e (by simpa using he) hb.1;rwa [qq hb.2]at this
   ·rcases hC with h|h
    ·rw[h]at hc;cases hc
    ·rw[h]at hc;cases hc;exact rZ
   ·rcases hk with rfl|⟨o',wQ,hd⟩
    ·exact rZ
    ·cases hLT:L cT with
     |false=>rfl
     |true=>
      exfalso;unfold Ww at hd;obtain⟨e,he,Kw⟩:=zI.1 hd;rw[qg]at Kw;have:=ZR cT o' wQ hLT e (by simpa using he) Kw.1;rw[qq Kw.2,rZ]at this;cases this
 ·rintro L a w hL ⟨_,wN,_⟩;exact(wN (hL c (by omega))).2
 ·rw[xp];constructor
  ·intro hk;exact⟨hk,by simp[qw,hk]⟩
  ·exact fun h=>h.1
 ·refine⟨fun j oj hj hL =>?_,fun h =>?_,fun _=>⟨h0,fun _=>Wt,rfl,rfl,fun _ _=>rfl,fun k o d ho _ hL _ =>?_⟩⟩
  ·exfalso;have hk:=(qd.1 hj).1;simp[qw,hk]at hL
  ·exfalso;simp[qw,show c<jA.size by omega]at h
  ·exfalso;have hk:=(qd.1 ho).1;simp[qw,hk]at hL
end Go.Lift
namespace Go.Lift
open Go Go.RowKit
variable [wB] [Mf]
variable {P:Program} {M M':Mem} {a a':Act} {w w':World}
def yeb(P:Program){X:Type}(R:Mem→X→Value→Prop)(M:Mem)(xs:List X)(gf:Nat)(fst lb:Array Value):Prop:=
 (∀ args w,(callFunc gf args).run P w = .ok (.enter gf args) w)∧
  ∀ (F:Fence) (n l:Nat) (J Jx:List X→Mem→World→Prop) (M0:Mem) (W:World),Mem.le M M0→F.depth=none→(∀f,F.fn f)→F.alive=false→F.round=none→
   (∀pre N W,J pre N W→Good N W)→(∀pre N W,Jx pre N W→Good N W)→EU J→EU Jx→
   (∀pre x N W1 v,J pre N W1→pre++[x] <+: xs→R N x v→YieldAt F (n-1) P l #[v] W1 fun e W'=>
    ∃N',Mem.le N N'∧((e = .returned (.bool true)∧J (pre++[x]) N' W')∨(e = .returned (.bool false)∧Jx (pre++[x]) N' W')))→
   J [] M0 W→CallsIn F n P gf (fst ++ #[.func (.yield l) #[] #[]]++lb) W fun e W'=>(∃v,e = .returned v)∧∃N',Mem.le M0 N'∧(J xs N' W'∨∃pre,pre <+: xs∧Jx pre N' W')
def dI:Obj→Bool
 |.loop _=>true
 |.deferred _=>true
 |_=>false
structure z36 (W W':World):Prop where
 same:∀(k:Nat) (o:Obj),W.heap[k]?=some o→dI o=true→W'.heap[k]?=some o
omit [wB] [Mf]in
theorem z36.refl(W:World):z36 W W:=⟨fun _ _ h _=>h⟩
omit [wB] [Mf]in
theorem z36.trans{A B C:World}(h:z36 A B)(k:z36 B C):z36 A C:=⟨fun i o hi ho=>k.same i o (h.same i o hi ho) ho⟩
omit [wB] [Mf]in
theorem z36.of_below{A B:World}(h:Below A.heap.size A B):z36 A B:=⟨fun i _ hi _=>(h.block i (qd.1 hi).1).trans hi⟩
def yes{X:Type}(I:List X→Mem→World→Prop)(Ix:Code→List X→Mem→World→Prop)(xs:List X)(N:Mem)(W:World):Exit→Act→World→Prop
 |.normal,_,W'=>z36 W W'∧∃N',Mem.le N N'∧I xs N' W'
 |.ret,_,W'=>z36 W W'∧∃N',Mem.le N N'∧Ix .ret xs N' W'
 |.exit id,_,W'=>z36 W W'∧∃N',Mem.le N N'∧Ix (.exit id) xs N' W'
 |_,_,_=>False
omit [Mf]in
theorem zyo{F:Fence}{n:Nat}{g:Operand}{ps:Array Tmp}{assign body:Code}{Q:Exit→Act→World→Prop}
  (hro:F.round=none) (h1:1≤n) (rm:F.depth=none) (Fl:∀f,F.fn f) (Yu:F.alive=false) {gf:Nat} {fst lb:Array Value} (hg:a.eval g = .func (.func gf) fst lb) {X:Type} {R:Mem→X→Value→Prop} {xs:List X} (H7:yeb P R M xs gf fst lb) (Zr:ps.size=1)
  (I:List X→Mem→World→Prop) (Ix:Code→List X→Mem→World→Prop) (Mp:∀pre N W,I pre N W→Good N W) (fj:∀c pre N W,Ix c pre N W→Good N W) (hI:EU I) (aI:∀c,EU (Ix c))
  (DR:∀pre N,OwnFrom w.heap.size fun(_:Unit) W=>I pre N W) (Gt:∀c pre N,OwnFrom w.heap.size fun(_:Unit) W=>Ix c pre N W) (h0:I [] M w)
  (Ax:List X→X→Mem→Act→World→Prop) (Mr:∀pre x N a',OwnFrom w.heap.size fun(_:Unit) W=>Ax pre x N a' W)
  (Xc:∀(l:Nat) (pre:List X) (x:X) (N:Mem) (W:World) (v:Value) (K:Act→World→Prop),I pre N W→pre++[x] <+: xs→R N x v→(∀N' a' W',Mem.le N N'→z36 W W'→Ax pre x N' a' W'→K a' W')→
   assign.wpIn (F.inRound l) (n-1-1) P (Exit.then K (fun _ _ _=>False)) {tmps:=(ps.zip #[v]).foldl (fun t (p,v)=>t.setIfInBounds p v) a.tmps,defers:=[]} W)
  (QB:∀(l:Nat) (pre:List X) (x:X) (N:Mem) (a':Act) (W:World),Ax pre x N a' W→pre++[x] <+: xs→body.wpIn (F.inRound l) (n-1-1) P (yes I Ix (pre++[x]) N W) a' W)
  (JK:∀(D:Nat) (N:Mem) (W:World),w.heap.size≤D→I xs N W→W.heap[D]?=some (.deferred (some []))→Q .normal {a with defers:={target :=.collected D,args := #[]}::a.defers} W)
  (Qe:∀(D:Nat) (c:Code) (pre:List X) (N:Mem) (W:World),w.heap.size≤D→pre <+: xs→Ix c pre N W→W.heap[D]?=some (.deferred (some []))→c.wpIn F n P Q {a with defers:={target :=.collected D,args := #[]}::a.defers} W):
  (Code.rangeFunc g ps assign body).wpIn F n P Q a w:=by
 refine wpIn_rangeFunc fun fn hf =>?_
 rw[hro];obtain⟨Rc,hR⟩:∃Rc:LoopState→Option Code→Loop,Rc=fun st pe=>⟨st,pe,fn,a.tmps,ps,assign,body,w.heap.size⟩:=⟨_,rfl⟩
 obtain⟨V,hV⟩:∃V,(w.alloc (.deferred (some []))).alloc (.loop (Rc .ready none))=V:=⟨_,rfl⟩
 have vL:V.heap[w.heap.size+1]?=some (.loop (Rc .ready none)):=by
  have:=qz (w.alloc (.deferred (some []))) (.loop (Rc .ready none));rwa [qQ,hV]at this
 have GZ:∀j,j<w.heap.size→V.heap[j]?=w.heap[j]?:=fun j hj=>by
  rw[←hV,yB _ _ _ (by simp;omega),yB _ _ _ hj]
 have vD:V.heap[w.heap.size]?=some (.deferred (some [])):=by
  rw[←hV];exact(yB _ _ _ (by simp)).trans (qz w _)
 have put:∀{S:World→Prop} (_:OwnFrom w.heap.size fun(_:Unit) W=>S W) {A:World} {j:Nat} {o:Obj} (o':Obj),S A→w.heap.size≤j→A.heap[j]?=some o→o.isCells=false→S (A.putObj j o'):=fun hS _ _ _ o' h hj hl ho=>OwnFrom.putObj hS (s:=()) o' h hj hl ho
 have vI:I [] M V:=by rw[←hV];exact OwnFrom.alloc (DR [] M) (s:=()) _ (OwnFrom.alloc (DR [] M) (s:=()) _ h0)
 refine⟨w.heap.size+1,[{target :=.collected w.heap.size,args := #[]}],V,{target :=.fn (.func gf) lb,args:=fst ++ #[.func (.yield (w.heap.size+1)) #[] #[]]},V,gf,
  fst ++ #[.func (.yield (w.heap.size+1)) #[] #[]]++lb,V,?_,?_,fun f' _=>Fl f',?_,fun _=>h1,?_⟩
 ·rw[←hV,hR];exact run_enterLoop_outer _ _ _ _ _
 ·simp only[resolve,hg];simp[go_sem]
 ·simp[invoke,go_sem,H7.1]
 have XC:∀{st:LoopState} {pe:Option Code} {A B:World} {N N':Mem},vm N A N' B→(A.heap[w.heap.size+1]?=some (.loop (Rc st pe))∧A.heap[w.heap.size]?=some (.deferred (some [])))→
   (B.heap[w.heap.size+1]?=some (.loop (Rc st pe))∧B.heap[w.heap.size]?=some (.deferred (some []))):=fun hg h=>
  ⟨(hg.below.block _ (qd.1 h.1).1).trans h.1,(hg.below.block _ (qd.1 h.2).1).trans h.2⟩
 refine(H7.2 F (n-1) (w.heap.size+1)
  (fun pre N W=>I pre N W∧W.heap[w.heap.size+1]?=some (.loop (Rc .ready none))∧W.heap[w.heap.size]?=some (.deferred (some [])))
  (fun pre N W=>∃c,Ix c pre N W∧W.heap[w.heap.size+1]?=some (.loop (Rc .done (some c)))∧W.heap[w.heap.size]?=some (.deferred (some [])))
  M V (Mem.le_refl M) rm Fl Yu hro (fun pre N W h=>Mp pre N W h.1) (fun pre N W ⟨c,h,_⟩=>fj c pre N W h) ?_ ?_ ?_ ⟨vI,vL,vD⟩).mono ?_
 ·exact fun pre N A N' B hs hg jZ=>⟨hI pre N A N' B hs.1 hg jZ,XC jZ hs.2⟩
 ·rintro pre N A N' B ⟨c,hc,hs⟩ hg jZ;exact⟨c,aI c pre N A N' B hc hg jZ,XC jZ hs⟩
 ·
  rintro pre x N W v ⟨hi,hl,hk⟩ vc hv;have hy:=run_yield (P:=P) (args := #[v]) hl (by rw[hR];exact Zr.symm);rw[hR]at hy;refine⟨fn,_,assign,body,hy,roundIn_of_wpIn hf (Xc _ pre x N W v _ hi vc hv fun N1 a1 W1 eY JE O6 =>?_)⟩;have XE:=JE.same _ _ hl rfl;have XF:=JE.same _ _ hk rfl;have hlt:=(qd.1 XE).1;refine⟨_,run_beginRound XE (by rw[hR]),?_⟩;obtain⟨U,hU⟩:∃U,W1.putObj (w.heap.size+1) (.loop {Rc .ready none with state :=.busy})=U:=⟨_,rfl⟩
  have uL:U.heap[w.heap.size+1]?=some (.loop {Rc .ready none with state :=.busy}):=by rw[←hU];exact xq hlt
  have uD:U.heap[w.heap.size]?=some (.deferred (some [])):=by rw[←hU];exact(zt (by omega)).trans XF
  have uA:Ax pre x N1 a1 U:=by rw[←hU];exact put (Mr pre x N1 a1) _ O6 (by omega) XE rfl
  rw[hU];refine wpIn_mono (QB _ pre x N1 a1 _ uA vc) ?_;have VZ:∀(jump:Option Code) (T:World),z36 U T→T.heap[w.heap.size+1]?=some (.loop {Rc .ready none with state :=.busy})∧
    (Instr.endRound (w.heap.size+1) jump).run P T = .ok (.bool jump.isNone) (T.putObj (w.heap.size+1) (.loop (Rc (if jump.isNone then .ready else .done) jump)))∧
    (T.putObj (w.heap.size+1) (.loop (Rc (if jump.isNone then .ready else .done) jump))).heap[w.heap.size+1]?=some (.loop (Rc (if jump.isNone then .ready else .done) jump))∧
    (T.putObj (w.heap.size+1) (.loop (Rc (if jump.isNone then .ready else .done) jump))).heap[w.heap.size]?=some (.deferred (some [])):=fun jump T hT=>by
   have tL:=hT.same _ _ uL rfl;have hr:=run_endRound (P:=P) jump tL;rw[hR]at hr tL⊢;exact⟨tL,hr,xq (qd.1 tL).1,(zt (by omega)).trans (hT.same _ _ uD rfl)⟩
  rintro e a3 T hp;cases e with
  |normal=>
   obtain⟨hT,N',JR,iT⟩:=hp;obtain⟨tL,hr,Jg,tD⟩:=VZ none T hT;exact⟨_,_,hr,N',Mem.le_trans eY JR,.inl ⟨rfl,put (DR _ N') _ iT (by omega) tL rfl,Jg,tD⟩⟩
  |ret=>
   obtain⟨hT,N',JR,iT⟩:=hp;obtain⟨tL,hr,Jg,tD⟩:=VZ (some .ret) T hT;exact⟨_,_,hr,N',Mem.le_trans eY JR,.inr ⟨rfl,.ret,put (Gt _ _ N') _ iT (by omega) tL rfl,Jg,tD⟩⟩
  |exit id=>
   obtain⟨hT,N',JR,iT⟩:=hp;obtain⟨tL,hr,Jg,tD⟩:=VZ (some (.exit id)) T hT;exact⟨_,_,hr,N',Mem.le_trans eY JR,.inr ⟨rfl,.exit id,put (Gt _ _ N') _ iT (by omega) tL rfl,Jg,tD⟩⟩
  |goto t=>exact hp.elim
  |panic ch=>exact hp.elim
  |outgrown=>exact hp.elim
 ·
  rintro e T ⟨⟨v,rfl⟩,N',_,⟨hi,hl,hk⟩|⟨pre,vc,c,hi,hl,hk⟩⟩
  ·have hr:=jr (P:=P) hl (by rw[hR];simp);rw[hR]at hr;exact⟨none,_,hr,JK _ N' _ (ql _) (put (DR _ N') _ hi (by omega) hl rfl) ((zt (by omega)).trans hk)⟩
  ·have hr:=jr (P:=P) hl (by rw[hR];simp);rw[hR]at hr;exact⟨some c,_,hr,Qe _ c pre N' _ (ql _) vc (put (Gt c _ N') _ hi (by omega) hl rfl) ((zt (by omega)).trans hk)⟩
end Go.Lift
