/-
  Calls that write blocks of the caller's.
-/
import Derived.Test.YtggnjngdmadbaaaGreatDoorLiftI
set_option linter.all false
namespace Go.Lift
open Go Go.RowKit
variable [wB] [Mf]
variable {P:Program} {Γ:QW} {base:Nat} {κ κ':Nat→Option Nat} {M M':Mem} {σ τ:St} {a a':Act} {w w':World}
structure Fra (G:List Nat) (M:Mem) (w:World) (M':Mem) (w':World):Prop where
 le:Mem.le M M'
 os:w'.os=w.os
 tape:w'.tape=w.tape
 output:w'.output=w.output
 size:w.heap.size≤w'.heap.size
 block:∀j,j<w.heap.size→j∉G→w'.heap[j]?=w.heap[j]?
 mem:∀j,j<w.heap.size→j∉G→M' j=M j
theorem Fra.refl{G:List Nat}:Fra G M w M w:=⟨Mem.le_refl _,rfl,rfl,rfl,ql _,fun _ _ _=>rfl,fun _ _ _=>rfl⟩
theorem Fra.trans{G:List Nat}{M2:Mem}{w2:World}(h:Fra G M w M' w')(k:Fra G M' w' M2 w2):Fra G M w M2 w2:=
 ⟨Mem.le_trans h.le k.le,k.os.trans h.os,k.tape.trans h.tape,k.output.trans h.output,ze h.size k.size,fun j hj hg=>(k.block j (qV hj h.size) hg).trans (h.block j hj hg),fun j hj hg=>(k.mem j (qV hj h.size) hg).trans (h.mem j hj hg)⟩
theorem Fra.sub{G H:List Nat}(h:Fra G M w M' w')(hs:∀g∈G,g∈H):Fra H M w M' w':=⟨h.le,h.os,h.tape,h.output,h.size,fun j hj hg=>h.block j hj fun hm=>hg (hs j hm),fun j hj hg=>h.mem j hj fun hm=>hg (hs j hm)⟩
theorem QN{G:List Nat}(hg:Good M w)(h:vm M w M' w'):Fra G M w M' w':=by
 refine⟨fun b o v hv =>?_,h.below.os,h.below.tape,h.below.output,h.below.size,fun j hj _=>h.below.block j hj,fun j hj _=>h.mem j hj⟩;have:=zc w _ (hg.2 b o v hv);rw[h.mem b this];exact hv
theorem ye3{W:List Nat}{G:List Nat}(h:Fr base W κ M σ a w κ' M' τ a' w')(hκ:∀i g,κ i=some g→g∈G):Fra G M w M' w':=
 ⟨h.le,h.below.os,h.below.tape,h.below.output,h.below.size,fun j hj hg=>h.same.frame j hj fun i hi=>hg (hκ i j hi),fun j hj hg=>h.same.mem j hj fun i hi=>hg (hκ i j hi)⟩
def z4d(P:Program)(M:Mem)(w:World)(g:Nat)(t:Ty)(x:t.den):Prop:=(∃jT E,w.heap[g]?=some (.cells jT E (0,0))∧jB P t M x jT.toList)∧∀o,M g o=none
theorem z4d.keep{G:List Nat}{g:Nat}{t:Ty}{x:t.den}(h:z4d P M w g t x)(hF:Fra G M w M' w')(hg:g∉G):z4d P M' w' g t x:=by
 obtain⟨⟨jT,E,h1,h2⟩,h3⟩:=h;have hlt:=(qd.1 h1).1;exact⟨⟨jT,E,(hF.block g hlt hg).trans h1,J8 t hF.le _ _ h2⟩,fun o=>by rw[hF.mem g hlt hg];exact h3 o⟩
theorem TY{t:Ty}{x:t.den}{b g:Nat}{tid:TypeId}{tk:Nat→Bool}(hk:κ b=some g)(h:z4d P M w g t x):RelB P κ M w tk b ⟨tid,t,x,[],false⟩:=by
 obtain⟨⟨jT,E,h1,h2⟩,h3⟩:=h;refine⟨g,hk,h3,.inl ⟨jT,E,h1,?_,WJ⟩⟩;cases t<;>exact h2
theorem sR{t:Ty}{x:t.den}{b g:Nat}{tid:TypeId}{tk:Nat→Bool}{own:Own}(hk:κ b=some g)(h:RelB P κ M w tk b ⟨tid,t,x,own,false⟩):z4d P M w g t x:=by
 obtain⟨g',h1,h2,⟨jT,E,h3,h4,_⟩|⟨_,_,_,_,_,_,h3,_⟩⟩:=h
 ·rw[hk]at h1;cases h1;refine⟨⟨jT,E,h3,?_⟩,h2⟩;cases t<;>exact h4
 ·cases h3
end Go.Lift
namespace Go.Lift
open Go Go.RowKit
variable [wB] [Mf]
variable {P:Program} {Γ:QW} {base:Nat} {κ κ':Nat→Option Nat} {M M':Mem} {σ τ:St} {a a':Act} {w w':World}
theorem Uc{args:Array Value}{k j:Nat}(h:j<args.size):(args++Array.replicate k undef).getD j undef=args.getD j undef:=by
 rw[qw,qw,ku,qH h]
def Bn(rs ids fz:List Nat)(e:Ex)(τ:St):Option (Qi×List (Nat×Box)):=match e with
 |.exit _=>none
 |_=>match X7 fz τ with
  |some τ'=>some (Y5 rs [] τ',ZO ids τ')
  |none=>none
theorem aQ(hm:P.follows .mixedOrders=true)(hC:Qw P Γ){F:Fence}(hF:Open F)(hro:F.round=none){n:Nat}{f:FuncId}{fn:Func}{c:Code}{args:Array Value}{l GY:Qi}{bs lJ:List (Nat×Box)}{rs ids fz:List Nat}{ann:Ann}{G:List Nat}{resv:Array Value→Value}
  (hf:P.funcs[f]?=some fn) (hb:fn.body=some c) (h:vY Γ c ann (Qc l bs) (Bn rs ids fz)=some (GY,lJ)) (H8:V9 c=true) (Oa:okB (args++Array.replicate (fn.ntmps-args.size) undef).size c=true) (Vh:noMark (writes c)=true) (hid:ids.all (fun i => !((writes c).any fun s=>Nat.beq s i))=true)
  (hR:jW P base κ M (Qc l bs) {tmps:=args++Array.replicate (fn.ntmps-args.size) undef,defers:=[]} w) (hκ:∀i g,κ i=some g→g∈G) (ZD:∀tmps w,(Go.results fn tmps).run P w = .ok (resv tmps) w):
  CallsIn F n P f args w fun e w'=>∃κ' M' a',e = .returned (resv a'.tmps)∧Fra G M w M' w'∧jW P base κ' M' (Qc GY lJ) a' w'∧∀i,i∈ids→∀B,Xv lJ i=some B→κ' i=κ i:=by
 refine zy hf hb (hF.fn f) ?_ hro;refine EV hm hC hF c (.inr H8) h Oa hR fun e κ' M' σ' a' w' j4 j6 hk =>?_
 have hd:a'.defers=[]:=by
  obtain⟨ms,h1,_,_,h4⟩:=j6.defers;cases ms with
  |nil=>exact h1
  |cons x l=>exact absurd (h4 (by simp)) (ES Vh)
 have fin:(match X7 fz σ' with
  |some τ'=>some (Y5 rs [] τ',ZO ids τ')
  |none=>none)=some (GY,lJ)→∃κ' M' a'',resv a'.tmps=resv a''.tmps∧Fra G M w M' w'∧jW P base κ' M' (Qc GY lJ) a'' w'∧∀i,i∈ids→∀B,Xv lJ i=some B→κ' i=κ i:=fun hk=>by
  split at hk
  ·rename_i τ' hτ;simp only[qb,qX]at hk;obtain⟨rfl,rfl⟩:=hk;obtain⟨M2,wG,wL⟩:=CW j4 hτ;have lG:=j6.trans wL (fun s hs=>hs) fun s hs=>by cases hs
   have FX:=sO wG rs ids;have rV:jW P base κ' M2 (Qc (Y5 rs [] τ') (ZO ids τ')) a' w':=by
    refine⟨fun s v hs =>?_,FX.bx,FX.good,FX.inj,FX.kap,FX.dis,FX.low⟩;have hm:=gJ hs;simp only[Y5,yd]at hm;obtain⟨s',_,hm⟩:=hm;split at hm
    ·rename_i t x o hv;simp only[qb,qX]at hm;obtain⟨rfl,rfl⟩:=hm;have h:=wG.env _ _ hv;exact⟨h.1,UQ h.2⟩
    ·rename_i u hv;simp only[qb,qX]at hm;obtain⟨rfl,rfl⟩:=hm;exact wG.env _ _ hv
    ·simp at hm
    ·cases hm
   refine⟨κ',M2,a',rfl,ye3 lG hκ,rV,fun i hi B hB =>?_⟩;have eh:=gI hB;simp only[ZO,yd]at eh;obtain⟨b',_,eh⟩:=eh;split at eh
   ·rename_i B0 Zh;simp only[qb,qX]at eh;obtain⟨rfl,rfl⟩:=eh;refine(lG.bx b' (fun hw =>?_) B0 Zh).1;have:=qW.1 hid b' hi;rw[zO]at this;have h2:((writes c).any fun s=>Nat.beq s b')=true:=zI.2 ⟨b',hw,ym _⟩;rw[this]at h2;cases h2
   ·cases eh
  ·cases hk
 cases e with
 |exit i=>cases hk
 |normal=>
  obtain⟨κ2,M2,a2,e1,e2,e3,e4⟩:=fin hk;refine bodyPost_end (ZD a'.tmps w') hd ⟨κ2,M2,a2,by rw[e1],e2,e3,e4⟩
 |ret=>
  obtain⟨κ2,M2,a2,e1,e2,e3,e4⟩:=fin hk;refine zu (ZD a'.tmps w') hd ⟨κ2,M2,a2,by rw[e1],e2,e3,e4⟩
def Jp(b1 g1 b2 g2:Nat):Nat→Option Nat:=fun i=>if i=b1 then some g1 else if i=b2 then some g2 else none
def Jq(b1 g1:Nat):Nat→Option Nat:=fun i=>if i=b1 then some g1 else none
theorem y8g{b1 g1:Nat}{tid1:TypeId}{t1:Ty}{x1:t1.den}{l:Qi}(hg:Good M w)(h1:z4d P M w g1 t1 x1)
  (j8:∀e∈l,RelA P (Jq b1 g1) M w (Xv [(b1,⟨tid1,t1,x1,[],false⟩)]) (fun _=>false) e.2 (a.tmps.getD e.1 undef)):jW P 0 (Jq b1 g1) M (Qc l [(b1,⟨tid1,t1,x1,[],false⟩)]) a w:=by
 have hlt:g1<w.heap.size:=by
  obtain⟨⟨jT,E,h,_⟩,_⟩:=h1;exact(qd.1 h).1
 refine⟨fun s v hs=>j8 _ (gJ hs),fun b B hB =>?_,hg,fun i j g hi hj =>?_,fun i g hi =>?_,fun i B _=>rfl,zz _⟩
 ·have hm:=gI hB;simp only[qE,qX]at hm;obtain⟨rfl,rfl⟩:=hm;exact TY (qH rfl) h1
 ·unfold Jq at hi hj;split at hi
  ·split at hj
   ·rename_i e1 e2;rw[e1,e2]
   ·cases hj
  ·cases hi
 ·unfold Jq at hi;split at hi
  ·cases hi;exact⟨zz _,hlt⟩
  ·cases hi
theorem yet{b1 g1 b2 g2:Nat}{tid1 tid2:TypeId}{t1 t2:Ty}{x1:t1.den}{x2:t2.den}{l:Qi}(hg:Good M w)(hb:b1≠b2)(ju:g1≠g2)(h1:z4d P M w g1 t1 x1)(h2:z4d P M w g2 t2 x2)
  (j8:∀e∈l,RelA P (Jp b1 g1 b2 g2) M w (Xv [(b1,⟨tid1,t1,x1,[],false⟩),(b2,⟨tid2,t2,x2,[],false⟩)]) (fun _=>false) e.2 (a.tmps.getD e.1 undef)):
  jW P 0 (Jp b1 g1 b2 g2) M (Qc l [(b1,⟨tid1,t1,x1,[],false⟩),(b2,⟨tid2,t2,x2,[],false⟩)]) a w:=by
 have hlt:∀{g t x},z4d P M w g t x→g<w.heap.size:=fun h=>by
  obtain⟨⟨jT,E,h,_⟩,_⟩:=h;exact(qd.1 h).1
 refine⟨fun s v hs=>j8 _ (gJ hs),fun b B hB =>?_,hg,fun i j g hi hj =>?_,fun i g hi =>?_,fun i B _=>rfl,zz _⟩
 ·have hm:=gI hB;simp only[qF,yb,ka,qX]at hm;rcases hm with⟨rfl,rfl⟩|⟨rfl,rfl⟩
  ·exact TY (qH rfl) h1
  ·exact TY ((qT (yL hb)).trans (qH rfl)) h2
 ·unfold Jp at hi hj
  (repeat' split at hi)<;>(repeat' split at hj)<;>simp_all
  all_goals first|omega|(subst_vars;first|rfl|exact absurd rfl ju|exact absurd rfl (yL ju))
 ·unfold Jp at hi
  (repeat' split at hi)<;>first|cases hi|skip
  ·exact⟨zz _,hlt h1⟩
  ·exact⟨zz _,hlt h2⟩
end Go.Lift
namespace Go.Lift
open Go Go.RowKit
variable [wB] [Mf]
variable {P:Program} {Γ:QW} {M M':Mem} {a a':Act} {w w':World}
structure zyi where
 tid1:TypeId
 t1:Ty
 g1:Nat
 tid2:TypeId
 t2:Ty
 g2:Nat
variable (D:zyi)
abbrev zyi.bs(x:D.t1.den)(y:D.t2.den):List (Nat×Box):=[(100,⟨D.tid1,D.t1,x,[],false⟩),(101,⟨D.tid2,D.t2,y,[],false⟩)]
def Jk(P:Program)(D:zyi)(M:Mem):AVal→Value→Prop
 |.data t x own,u=>jz P t M x u∧own=[]
 |.raw v,u=>u=v
 |.bptr b p,u=>(b=100∧∃off,jN D.t1 p=some off∧u = .pointer (some ⟨D.g1,off,none⟩))∨(b=101∧∃off,jN D.t2 p=some off∧u = .pointer (some ⟨D.g2,off,none⟩))
 |.tup ts x,u=>∃vs:Array Value,u = .tuple vs∧Kh P M ts x vs.toList
 |_,_=>False
structure Two (P:Program) (D:zyi) (M:Mem) (l:Qi) (x:D.t1.den) (y:D.t2.den) (a:Act) (w:World):Prop where
 good:Good M w
 ne:D.g1≠D.g2
 b1:z4d P M w D.g1 D.t1 x
 b2:z4d P M w D.g2 D.t2 y
 env:∀e∈l,Jk P D M e.2 (a.tmps.getD e.1 undef)
variable {D}
theorem y8k(hM:Mem.le M M'){v:AVal}{u:Value}(h:Jk P D M v u):Jk P D M' v u:=by
 cases v with
 |data t x own=>exact⟨ZZ hM h.1,h.2⟩
 |raw v=>exact h
 |bptr _ _=>exact h
 |rowp _=>exact h
 |mapp _=>exact h
 |tup _ _=>
  obtain⟨vs,h1,h2⟩:=h;exact⟨vs,h1,tU hM _ _ _ h2⟩
 |clo _ _=>exact h
 |undef=>exact h
 |iter _ _ _=>exact h
theorem y7u{l:Qi}{x:D.t1.den}{y:D.t2.den}(h:Two P D M l x y a w):jW P 0 (Jp 100 D.g1 101 D.g2) M (Qc l (D.bs x y)) a w:=by
 refine yet h.good (by decide) h.ne h.b1 h.b2 fun e he =>?_
 have:=h.env e he;cases hv:e.2 with
 |data t x own=>
  rw[hv]at this;obtain⟨h1,h2⟩:=this;subst h2;exact⟨h1,WJ⟩
 |raw v=>rw[hv]at this;exact this
 |bptr b p=>
  rw[hv]at this;rcases this with⟨rfl,off,h1,h2⟩|⟨rfl,off,h1,h2⟩
  ·exact⟨_,D.g1,off,rfl,rfl,h1,h2⟩
  ·exact⟨_,D.g2,off,rfl,rfl,h1,h2⟩
 |rowp _=>rw[hv]at this;exact this.elim
 |mapp _=>rw[hv]at this;exact this.elim
 |tup _ _=>rw[hv]at this;exact this
 |clo _ _=>rw[hv]at this;exact this.elim
 |undef=>rw[hv]at this;exact this.elim
 |iter _ _ _=>rw[hv]at this;exact this.elim
theorem ycn{i g:Nat}(h:Jp 100 D.g1 101 D.g2 i=some g):g∈[D.g1,D.g2]:=by
 unfold Jp at h;split at h
 ·cases h;simp
 ·split at h
  ·cases h;simp
  ·cases h
def Bo(ss fz:List Nat)(σ:St):Option (Qi×List (Nat×Box)):=match X7 fz σ with
 |some τ=>some (Y5 ss [100,101] τ,ZO [100,101] τ)
 |none=>none
theorem ydk{κ':Nat→Option Nat}{W:List Nat}{σ':St}{ss fz:List Nat}{l l':Qi}{x x':D.t1.den}{y y':D.t2.den}(hT:Two P D M l x y a w)(hR:jW P 0 κ' M' σ' a' w')(hF:Fr 0 W (Jp 100 D.g1 101 D.g2) M (Qc l (D.bs x y)) a w κ' M' σ' a' w')(hW:W.all (fun s => !(Nat.beq s 100) && !(Nat.beq s 101))=true)(Ys:l'.all (fun e=>match e.2 with |.data _ _ o=>o.isEmpty|_=>true)=true)
  (ho:Bo ss fz σ'=some (l',D.bs x' y')):∃M2,Two P D M2 l' x' y' a' w'∧Fra [D.g1,D.g2] M w M2 w':=by
 unfold Bo at ho;split at ho;rotate_left
 ·cases ho
 rename_i τ hτ;simp only[qb,qX]at ho;obtain⟨M2,wG,wL⟩:=CW hR hτ;have lG:=hF.trans wL (fun s hs=>hs) fun s hs=>by cases hs
 have FX:=sO wG ss [100,101];rw[ho.1,ho.2]at FX;have ai:∀i,i=100∨i=101→i∉W:=fun i hi hm=>by
  have:=qW.1 hW i hm;rcases hi with rfl|rfl<;>simp at this
 have rC:∀i B,Xv (D.bs x' y') i=some B→∃B0,τ.box i=some B0:=fun i B hB=>by
  rw[←ho.2]at hB;have hm:=gI hB;simp only[ZO,yd]at hm;obtain⟨b',_,hm⟩:=hm;split at hm
  ·rename_i B0 Zh;simp only[qb,qX]at hm;obtain⟨rfl,_⟩:=hm;exact⟨B0,Zh⟩
  ·cases hm
 obtain⟨B1,aK⟩:=rC 100 _ rfl;obtain⟨B2,sh⟩:=rC 101 _ rfl;have k1:κ' 100=some D.g1:=((lG.bx 100 (ai 100 (.inl rfl)) B1 aK).1).trans rfl;have k2:κ' 101=some D.g2:=((lG.bx 101 (ai 101 (.inr rfl)) B2 sh).1).trans rfl;refine⟨M2,⟨wG.good,hT.ne,sR k1 (FX.bx 100 _ rfl),sR k2 (FX.bx 101 _ rfl),fun e he =>?_⟩,ye3 lG fun i g=>ycn⟩;have FU:=he;rw[←ho.1]at he;simp only[Y5,yd]at he;obtain⟨s,_,he⟩:=he;split at he
 ·rename_i t v o hv;simp only[qb]at he;subst he;have h:=wG.env _ _ hv;have:=qW.1 Ys _ FU;exact⟨h.1,by simpa using this⟩
 ·rename_i u hv;simp only[qb]at he;subst he;exact wG.env _ _ hv
 ·rename_i b p hv;cases hb:[100,101].any fun i=>Nat.beq i b with
  |false=>rw[hb]at he;cases he
  |true=>
   rw[hb,qv]at he;simp only[qb]at he;subst he;obtain⟨B,g,off,h1,h2,h3,h4⟩:=wG.env _ _ hv;obtain⟨i,hi,XG⟩:=zI.1 hb;have:=qq XG;subst this;have key:∀{b1:Nat} {tid:TypeId} {t:Ty} {z:t.den} {gg:Nat},i=b1→κ' b1=some gg→Xv (ZO [100,101] τ) b1=some ⟨tid,t,z,[],false⟩→b1∈[100,101]→∃off,jN t p=some off∧a'.tmps.getD s undef = .pointer (some ⟨gg,off,none⟩):=fun{b1 tid t z gg} e hk hx hm=>by
    subst e;rw[Ue hm h1]at hx;simp only[qb]at hx;obtain⟨tB,tyB,xB,oB,rB⟩:=B;unfold Sd at hx;simp only[Box.mk.injEq]at hx;obtain⟨rfl,rfl,hx3,_,rfl⟩:=hx;rw[hk]at h2;cases h2;exact⟨off,h3,h4⟩
   simp only[qF,yb,ka]at hi;rcases hi with rfl|rfl
   ·exact .inl ⟨rfl,key rfl k1 (by rw[ho.2];rfl) (by simp)⟩
   ·exact .inr ⟨rfl,key rfl k2 (by rw[ho.2];rfl) (by simp)⟩
 ·cases he
def Ea(ss fz:List Nat)(e:Ex)(τ:St):Option (Ex×Qi×List (Nat×Box)):=match Bo ss fz τ with
 |some r=>some (e,r)
 |none=>none
def KV(ss fz:List Nat)(τ:St)(_:QD):Option (Qi×List (Nat×Box)):=Bo ss fz τ
def ok2(W:List Nat):Bool:=W.all (fun s => !(Nat.beq s 100) && !(Nat.beq s 101))
def AW(l:Qi):Bool:=l.all (fun e=>match e.2 with |.data _ _ o=>o.isEmpty|_=>true)
structure aV (G:List Nat) (M:Mem) (a:Act) (w:World) (M':Mem) (a':Act) (w':World):Prop where
 fra:Fra G M w M' w'
 size:a'.tmps.size=a.tmps.size
 defers:a'.defers=a.defers
theorem y0i{base:Nat}{κ κ':Nat→Option Nat}{W:List Nat}{σ τ:St}(h:Fr base W κ M σ a w κ' M' τ a' w')(hn:noMark W=true):a'.defers=a.defers:=by
 obtain⟨ms,h1,_,_,h4⟩:=h.defers;cases ms with
 |nil=>exact h1
 |cons x l=>exact absurd (h4 (by simp)) (ES hn)
theorem Cb(hm:P.follows .mixedOrders=true)(hC:Qw P Γ){F:Fence}(hF:Open F){nn:Nat}(c:Code)(hro:(F.round=none∧1≤nn)∨V9 c=true){n:Ann}{l l':Qi}{fz ss:List Nat}{e:Ex}{x x':D.t1.den}{y y':D.t2.den}{Q:Exit→Act→World→Prop}
  (h:vY Γ c n (Qc l (D.bs x y)) (Ea ss fz)=some (e,l',D.bs x' y')) (hb:okB a.tmps.size c=true) (Vh:noMark (writes c)=true) (hW:ok2 (writes c)=true) (Ys:AW l'=true) (hT:Two P D M l x y a w)
  (hQ:∀M' a' w',Two P D M' l' x' y' a' w'→aV [D.g1,D.g2] M a w M' a' w'→Q (YM e) a' w'):c.wpIn F nn P Q a w:=by
 refine EV hm hC hF c hro h hb (y7u hT) fun e' κ' M' σ' a' w' j4 j6 hk =>?_
 unfold Ea at hk;split at hk
 ·rename_i r hr;simp only[qb,qX]at hk;obtain⟨rfl,rfl⟩:=hk;obtain⟨M2,h1,h2⟩:=ydk hT j4 j6 hW Ys hr;exact hQ M2 a' w' h1 ⟨h2,j6.size,y0i j6 Vh⟩
 ·cases hk
theorem GL(hC:Qw P Γ){jA:Array Oper}{F:Fence}(hF:Open F){n:Nat}{Q:Exit→Act→World→Prop}{l l':Qi}{fz ss:List Nat}{n0:Nat}{x x':D.t1.den}{y y':D.t2.den}(i j:Nat){rest:List Nat}(hl:rest=List.range' i (jA.size-i))(hj:i+j≤jA.size)
  (h:Q6 Γ jA.toList (List.range' i j) (Qc l (D.bs x y)) [] (KV ss fz)=some (l',D.bs x' y')) (vQ:a.tmps.size=n0) (h2:(QE jA.toList).all (fun d=>Nat.blt d n0)=true) (Vh:noMark (QE jA.toList)=true) (hW:ok2 (QE jA.toList)=true) (Ys:AW l'=true) (hT:Two P D M l x y a w)
  (hQ:∀M' a' w',Two P D M' l' x' y' a' w'→aV [D.g1,D.g2] M a w M' a' w'→wpOpsIn F n P jA Q (List.range' (i+j) (jA.size-(i+j))) a' w'):wpOpsIn F n P jA Q rest a w:=by
 subst vQ hl;obtain⟨τ,lg,Ku,hk,_,_⟩:=ij h List.nodup_range' (fun e he=>by simp at he);have Zq:List.range' i (jA.size-i)=List.range' i j++List.range' (i+j) (jA.size-(i+j)):=by
  rw[List.range'_append_1];congr 1;omega
 rw[Zq];refine UW hC hF Ku (y7u hT) (bh h2) fun κ' M' a' w' j4 j6 =>?_
 obtain⟨M2,k1,k2⟩:=ydk hT j4 j6 hW Ys hk;exact hQ M2 a' w' k1 ⟨k2,j6.size,y0i j6 Vh⟩
theorem Two.call{l:Qi}{x x':D.t1.den}{y y':D.t2.den}{d:Nat}{v:AVal}{u:Value}(h:Two P D M l x y a w)(hF:Fra [D.g1,D.g2] M w M' w')(hg:Good M' w')(h1:z4d P M' w' D.g1 D.t1 x')(h2:z4d P M' w' D.g2 D.t2 y')(hd:d<a.tmps.size)(hv:Jk P D M' v u)(hl:l.all (fun e => !(Nat.beq e.1 d))=true):
  Two P D M' ((d,v)::l) x' y' (a.put (some d) u) w':=by
 refine⟨hg,h.ne,h1,h2,fun e he =>?_⟩;rcases qF.1 he with rfl|he
 ·rw[mH a d u hd];exact hv
 ·have:=qW.1 hl e he;rw[Eg a (some d) u e.1 (fun k=>by
   simp only[qb]at k;rw[←k,ym]at this;cases this)]
  exact y8k hF.le (h.env e he)
theorem Two.sub{l m:Qi}{x:D.t1.den}{y:D.t2.den}(h:Two P D M l x y a w)(hs:∀e∈m,e∈l):Two P D M m x y a w:=⟨h.good,h.ne,h.b1,h.b2,fun e he=>h.env e (hs e he)⟩
end Go.Lift
namespace Go.Lift
open Go Go.RowKit
variable [wB] [Mf]
variable {P:Program} {w:World}
theorem y1n{k v:Ty}(hk:k.scal=true)(hv:v.scal=true){T:TypeId}(ht:fits P (.mapT k v) (.inl T)=true){g:Nat}{es:Array MapEntry}{cl:Nat}{l:List (k.den×v.den)}(hb:w.heap[g]?=some (.map es cl))(hl:XB k v l es)(j:k.den):
  (Instr.lookup T (.map (some g)) (encS k j) true).run P w = .ok (.tuple #[encS v (wK k v l j),.bool (l.find? fun p=>k.eqb j p.1).isSome]) w:=by
 obtain⟨K,V,hu,_,_,YJ,pZ,iv,DC,hz⟩:=bi ht;obtain⟨ik,dk,Qa⟩:=Qx YJ;have Vi:=yS (w:=w) Qa.und (Ap hk YJ Qa.und j) es.isEmpty 9999;rcases bw hk YJ Qa.und j es.toList l 0 hl with⟨g1,_,g3⟩|⟨n,pre,p,post,g1,g2,g3,g4,_,g5⟩
 ·have vv:=zU (w:=w) Qa.und g1;have hm:wK k v l j=v.dflt:=by unfold wK;rw[g3]
  rw[hm,g3];simp only[Instr.lookup,qy,qG hu,qt,zH hb,qD,Vi,vv,Ux DC hz];rfl
 ·have vv:=zU (w:=w) Qa.und g1;have hm:wK k v l j=p.2:=by unfold wK;rw[g5]
  rw[hm,g5];simp only[Instr.lookup,qy,qG hu,qt,zH hb,qD,Vi,vv];rfl
end Go.Lift
