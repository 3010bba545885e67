/-
  Calls that write blocks of the caller's.
-/
import Derived.Test.YtggnjngdmadbaaaGreatDoorLiftI
set_option linter.unusedSectionVars false
set_option linter.unusedVariables false
set_option linter.unusedSimpArgs false
namespace Go.Lift
open Go Go.RowKit
variable [Tab] [Mf]
variable {P:Program} {Γ:Ctx} {base:Nat} {κ κ':Nat→Option Nat} {M M':Mem} {σ τ:St} {a a':Act} {w w':World}
structure Fra (G:List Nat) (M:Mem) (w:World) (M':Mem) (w':World):Prop where
 le:Mem.le M M'
 os:w'.os=w.os
 tape:w'.tape=w.tape
 output:w'.output=w.output
 size:w.heap.size≤w'.heap.size
 block:∀j,j < w.heap.size→j∉G→w'.heap[j]?=w.heap[j]?
 mem:∀j,j < w.heap.size→j∉G→M' j=M j
theorem Fra.refl{G:List Nat}:Fra G M w M w:=⟨Mem.le_refl _,rfl,rfl,rfl,ql _,fun _ _ _=>rfl,fun _ _ _=>rfl⟩
theorem Fra.trans{G:List Nat}{M2:Mem}{w2:World}(h:Fra G M w M' w')(k:Fra G M' w' M2 w2):Fra G M w M2 w2:=
 ⟨Mem.le_trans h.le k.le,k.os.trans h.os,k.tape.trans h.tape,k.output.trans h.output,Nat.le_trans h.size k.size,fun j hj hg=>(k.block j (Nat.lt_of_lt_of_le hj h.size) hg).trans (h.block j hj hg),fun j hj hg=>(k.mem j (Nat.lt_of_lt_of_le hj h.size) hg).trans (h.mem j hj hg)⟩
theorem Fra.sub{G H:List Nat}(h:Fra G M w M' w')(hs:∀g∈G,g∈H):Fra H M w M' w':=⟨h.le,h.os,h.tape,h.output,h.size,fun j hj hg=>h.block j hj fun hm=>hg (hs j hm),fun j hj hg=>h.mem j hj fun hm=>hg (hs j hm)⟩
theorem z12{G:List Nat}(hg:Good M w)(h:Grow M w M' w'):Fra G M w M' w':=by
 refine⟨fun b o v hv => ?_,h.below.os,h.below.tape,h.below.output,h.below.size,fun j hj _=>h.below.block j hj,fun j hj _=>h.mem j hj⟩;have:=World.block_lt_of_cell? w _ (hg.2 b o v hv);rw[h.mem b this];exact hv
theorem ycv{W:List Nat}{G:List Nat}(h:Fr base W κ M σ a w κ' M' τ a' w')(hκ:∀i g,κ i=some g→g∈G):Fra G M w M' w':=
 ⟨h.le,h.below.os,h.below.tape,h.below.output,h.below.size,fun j hj hg=>h.same.frame j hj fun i hi=>hg (hκ i j hi),fun j hj hg=>h.same.mem j hj fun i hi=>hg (hκ i j hi)⟩
def z4e(P:Program)(M:Mem)(w:World)(g:Nat)(t:Ty)(x:t.den):Prop:=(∃cur E,w.heap[g]?=some (.cells cur E (0,0))∧relC P t M x cur.toList)∧∀o,M g o=none
theorem z4e.keep{G:List Nat}{g:Nat}{t:Ty}{x:t.den}(h:z4e P M w g t x)(hF:Fra G M w M' w')(hg:g∉G):z4e P M' w' g t x:=by
 obtain⟨⟨cur,E,h1,h2⟩,h3⟩:=h;have hlt:=(qd.1 h1).1;exact⟨⟨cur,E,(hF.block g hlt hg).trans h1,z4s t hF.le _ _ h2⟩,fun o=>by rw[hF.mem g hlt hg];exact h3 o⟩
theorem zwi{t:Ty}{x:t.den}{b g:Nat}{tid:TypeId}{tk:Nat→Bool}(hk:κ b=some g)(h:z4e P M w g t x):RelB P κ M w tk b ⟨tid,t,x,[],false⟩:=by
 obtain⟨⟨cur,E,h1,h2⟩,h3⟩:=h;refine⟨g,hk,h3,.inl ⟨cur,E,h1,?_,z3y⟩⟩;cases t<;>exact h2
theorem zqw{t:Ty}{x:t.den}{b g:Nat}{tid:TypeId}{tk:Nat→Bool}{own:Own}(hk:κ b=some g)(h:RelB P κ M w tk b ⟨tid,t,x,own,false⟩):z4e P M w g t x:=by
 obtain⟨g',h1,h2,⟨cur,E,h3,h4,_⟩|⟨_,_,_,_,_,_,h3,_⟩⟩:=h
 ·rw[hk] at h1;cases h1;refine⟨⟨cur,E,h3,?_⟩,h2⟩;cases t<;>exact h4
 ·cases h3
end Go.Lift
namespace Go.Lift
open Go Go.RowKit
variable [Tab] [Mf]
variable {P:Program} {Γ:Ctx} {base:Nat} {κ κ':Nat→Option Nat} {M M':Mem} {σ τ:St} {a a':Act} {w w':World}
theorem ztk{args:Array Value}{k j:Nat}(h:j < args.size):(args++Array.replicate k undef).getD j undef=args.getD j undef:=by
 rw[Array.getD_eq_getD_getElem?,Array.getD_eq_getD_getElem?,Array.getElem?_append,if_pos h]
def obsR(rs ids fz:List Nat)(e:Ex)(τ:St):Option (z4n×List (Nat×Box)):=match e with
 |.exit _=>none
 |_=>match frzs fz τ with
  |some τ'=>some (obsE rs [] τ',obsX ids τ')
  |none=>none
theorem callB(hm:P.follows .mixedOrders=true)(hC:COk P Γ){F:Fence}(hF:Open F)(hro:F.round=none){n:Nat}{f:FuncId}{fn:Func}{c:Code}{args:Array Value}{l slots:z4n}{bs bs':List (Nat×Box)}{rs ids fz:List Nat}{ann:Ann}{G:List Nat}{resv:Array Value→Value}
  (hf:P.funcs[f]?=some fn) (hb:fn.body=some c) (h:z29 Γ c ann (stB l bs) (obsR rs ids fz)=some (slots,bs')) (hrange:z5j c=true) (hnt:okB (args++Array.replicate (fn.ntmps-args.size) undef).size c=true) (hnr:noMark (writes c)=true) (hid:ids.all (fun i => !((writes c).any fun s=>Nat.beq s i))=true)
  (hR:Rel P base κ M (stB l bs) {tmps:=args++Array.replicate (fn.ntmps-args.size) undef,defers:=[]} w) (hκ:∀i g,κ i=some g→g∈G) (hres:∀tmps w,(Go.results fn tmps).run P w = .ok (resv tmps) w) :
  CallsIn F n P f args w fun e w'=>∃κ' M' a',e = .returned (resv a'.tmps)∧Fra G M w M' w'∧Rel P base κ' M' (stB slots bs') a' w'∧∀i,i∈ids→∀B,boxL bs' i=some B→κ' i=κ i:=by
 refine callsIn_of_wp hf hb (hF.fn f) ?_ hro;refine z6a hm hC hF c (.inr hrange) h hnt hR fun e κ' M' σ' a' w' hR' hF' hk => ?_
 have hd:a'.defers=[]:=by
  obtain⟨ms,h1,_,_,h4⟩:=hF'.defers;cases ms with
  |nil=>exact h1
  |cons x l=>exact absurd (h4 (by simp)) (z7z hnr)
 have fin:(match frzs fz σ' with
  |some τ'=>some (obsE rs [] τ',obsX ids τ')
  |none=>none)=some (slots,bs')→∃κ' M' a'',resv a'.tmps=resv a''.tmps∧Fra G M w M' w'∧Rel P base κ' M' (stB slots bs') a'' w'∧∀i,i∈ids→∀B,boxL bs' i=some B→κ' i=κ i:=fun hk=>by
  split at hk
  ·rename_i τ' hτ;simp only[qb,Prod.mk.injEq] at hk;obtain⟨rfl,rfl⟩:=hk;obtain⟨M2,hR2,hF2⟩:=zdv hR' hτ;have hFt:=hF'.trans hF2 (fun s hs=>hs) fun s hs=>by cases hs
   have hRo:=zwf hR2 rs ids;have hRs:Rel P base κ' M2 (stB (obsE rs [] τ') (obsX ids τ')) a' w':=by
    refine⟨fun s v hs => ?_,hRo.bx,hRo.good,hRo.inj,hRo.kap,hRo.dis,hRo.low⟩;have hm:=zkw hs;simp only[obsE,List.mem_filterMap] at hm;obtain⟨s',_,hm⟩:=hm;split at hm
    ·rename_i t x o hv;simp only[qb,Prod.mk.injEq] at hm;obtain⟨rfl,rfl⟩:=hm;have h:=hR2.env _ _ hv;exact⟨h.1,zoy h.2⟩
    ·rename_i u hv;simp only[qb,Prod.mk.injEq] at hm;obtain⟨rfl,rfl⟩:=hm;exact hR2.env _ _ hv
    ·simp at hm
    ·cases hm
   refine⟨κ',M2,a',rfl,ycv hFt hκ,hRs,fun i hi B hB => ?_⟩;have hmm:=zky hB;simp only[obsX,List.mem_filterMap] at hmm;obtain⟨b',_,hmm⟩:=hmm;split at hmm
   ·rename_i B0 hB0;simp only[qb,Prod.mk.injEq] at hmm;obtain⟨rfl,rfl⟩:=hmm;refine(hFt.bx b' (fun hw => ?_) B0 hB0).1;have:=List.all_eq_true.1 hid b' hi;rw[Bool.not_eq_true'] at this;have h2:((writes c).any fun s=>Nat.beq s b')=true:=List.any_eq_true.2 ⟨b',hw,Nat.beq_refl _⟩;rw[this] at h2;cases h2
   ·cases hmm
  ·cases hk
 cases e with
 |exit i=>cases hk
 |normal=>
  obtain⟨κ2,M2,a2,e1,e2,e3,e4⟩:=fin hk;refine bodyPost_end (hres a'.tmps w') hd ⟨κ2,M2,a2,by rw[e1],e2,e3,e4⟩
 |ret=>
  obtain⟨κ2,M2,a2,e1,e2,e3,e4⟩:=fin hk;refine bodyPost_ret (hres a'.tmps w') hd ⟨κ2,M2,a2,by rw[e1],e2,e3,e4⟩
def kap2(b1 g1 b2 g2:Nat):Nat→Option Nat:=fun i=>if i=b1 then some g1 else if i=b2 then some g2 else none
def kap1(b1 g1:Nat):Nat→Option Nat:=fun i=>if i=b1 then some g1 else none
theorem y7h{b1 g1:Nat}{tid1:TypeId}{t1:Ty}{x1:t1.den}{l:z4n}(hg:Good M w)(h1:z4e P M w g1 t1 x1)
  (henv:∀e∈l,RelA P (kap1 b1 g1) M w (boxL [(b1,⟨tid1,t1,x1,[],false⟩)]) (fun _=>false) e.2 (a.tmps.getD e.1 undef)):Rel P 0 (kap1 b1 g1) M (stB l [(b1,⟨tid1,t1,x1,[],false⟩)]) a w:=by
 have hlt:g1 < w.heap.size:=by
  obtain⟨⟨cur,E,h,_⟩,_⟩:=h1;exact(qd.1 h).1
 refine⟨fun s v hs=>henv _ (zkw hs),fun b B hB => ?_,hg,fun i j g hi hj => ?_,fun i g hi => ?_,fun i B _=>rfl,Nat.zero_le _⟩
 ·have hm:=zky hB;simp only[List.mem_singleton,Prod.mk.injEq] at hm;obtain⟨rfl,rfl⟩:=hm;exact zwi (if_pos rfl) h1
 ·unfold kap1 at hi hj;split at hi
  ·split at hj
   ·rename_i e1 e2;rw[e1,e2]
   ·cases hj
  ·cases hi
 ·unfold kap1 at hi;split at hi
  ·cases hi;exact⟨Nat.zero_le _,hlt⟩
  ·cases hi
theorem ydm{b1 g1 b2 g2:Nat}{tid1 tid2:TypeId}{t1 t2:Ty}{x1:t1.den}{x2:t2.den}{l:z4n}(hg:Good M w)(hb:b1≠b2)(hne:g1≠g2)(h1:z4e P M w g1 t1 x1)(h2:z4e P M w g2 t2 x2)
  (henv:∀e∈l,RelA P (kap2 b1 g1 b2 g2) M w (boxL [(b1,⟨tid1,t1,x1,[],false⟩),(b2,⟨tid2,t2,x2,[],false⟩)]) (fun _=>false) e.2 (a.tmps.getD e.1 undef)) :
  Rel P 0 (kap2 b1 g1 b2 g2) M (stB l [(b1,⟨tid1,t1,x1,[],false⟩),(b2,⟨tid2,t2,x2,[],false⟩)]) a w:=by
 have hlt:∀ {g t x},z4e P M w g t x→g < w.heap.size:=fun h=>by
  obtain⟨⟨cur,E,h,_⟩,_⟩:=h;exact(qd.1 h).1
 refine⟨fun s v hs=>henv _ (zkw hs),fun b B hB => ?_,hg,fun i j g hi hj => ?_,fun i g hi => ?_,fun i B _=>rfl,Nat.zero_le _⟩
 ·have hm:=zky hB;simp only[List.mem_cons,List.not_mem_nil,or_false,Prod.mk.injEq] at hm;rcases hm with⟨rfl,rfl⟩|⟨rfl,rfl⟩
  ·exact zwi (if_pos rfl) h1
  ·exact zwi ((if_neg (Ne.symm hb)).trans (if_pos rfl)) h2
 ·unfold kap2 at hi hj
  (repeat' split at hi)<;>(repeat' split at hj)<;>simp_all
  all_goals first|omega|(subst_vars;first|rfl|exact absurd rfl hne|exact absurd rfl (Ne.symm hne))
 ·unfold kap2 at hi
  (repeat' split at hi)<;>first|cases hi|skip
  ·exact⟨Nat.zero_le _,hlt h1⟩
  ·exact⟨Nat.zero_le _,hlt h2⟩
end Go.Lift
namespace Go.Lift
open Go Go.RowKit
variable [Tab] [Mf]
variable {P:Program} {Γ:Ctx} {M M':Mem} {a a':Act} {w w':World}
structure zxu where
 tid1:TypeId
 t1:Ty
 g1:Nat
 tid2:TypeId
 t2:Ty
 g2:Nat
variable (D:zxu)
abbrev zxu.bs(x:D.t1.den)(y:D.t2.den):List (Nat×Box):=[(100,⟨D.tid1,D.t1,x,[],false⟩),(101,⟨D.tid2,D.t2,y,[],false⟩)]
def relS(P:Program)(D:zxu)(M:Mem):AVal→Value→Prop
 |.data t x own,u=>relV P t M x u∧own=[]
 |.raw v,u=>u=v
 |.bptr b p,u=>(b=100∧∃off,offV D.t1 p=some off∧u = .pointer (some ⟨D.g1,off,none⟩))∨(b=101∧∃off,offV D.t2 p=some off∧u = .pointer (some ⟨D.g2,off,none⟩))
 |.tup ts x,u=>∃vs:Array Value,u = .tuple vs∧zg4 P M ts x vs.toList
 |_,_=>False
structure Two (P:Program) (D:zxu) (M:Mem) (l:z4n) (x:D.t1.den) (y:D.t2.den) (a:Act) (w:World):Prop where
 good:Good M w
 ne:D.g1≠D.g2
 b1:z4e P M w D.g1 D.t1 x
 b2:z4e P M w D.g2 D.t2 y
 env:∀e∈l,relS P D M e.2 (a.tmps.getD e.1 undef)
variable {D}
theorem y7l(hM:Mem.le M M'){v:AVal}{u:Value}(h:relS P D M v u):relS P D M' v u:=by
 cases v with
 |data t x own=>exact⟨z18 hM h.1,h.2⟩
 |raw v=>exact h
 |bptr _ _=>exact h
 |rowp _=>exact h
 |mapp _=>exact h
 |tup _ _=>
  obtain⟨vs,h1,h2⟩:=h;exact⟨vs,h1,zkd hM _ _ _ h2⟩
 |clo _ _=>exact h
 |undef=>exact h
 |iter _ _ _=>exact h
theorem y6u{l:z4n}{x:D.t1.den}{y:D.t2.den}(h:Two P D M l x y a w):Rel P 0 (kap2 100 D.g1 101 D.g2) M (stB l (D.bs x y)) a w:=by
 refine ydm h.good (by decide) h.ne h.b1 h.b2 fun e he => ?_
 have:=h.env e he;cases hv:e.2 with
 |data t x own=>
  rw[hv] at this;obtain⟨h1,h2⟩:=this;subst h2;exact⟨h1,z3y⟩
 |raw v=>rw[hv] at this;exact this
 |bptr b p=>
  rw[hv] at this;rcases this with⟨rfl,off,h1,h2⟩|⟨rfl,off,h1,h2⟩
  ·exact⟨_,D.g1,off,rfl,rfl,h1,h2⟩
  ·exact⟨_,D.g2,off,rfl,rfl,h1,h2⟩
 |rowp _=>rw[hv] at this;exact this.elim
 |mapp _=>rw[hv] at this;exact this.elim
 |tup _ _=>rw[hv] at this;exact this
 |clo _ _=>rw[hv] at this;exact this.elim
 |undef=>rw[hv] at this;exact this.elim
 |iter _ _ _=>rw[hv] at this;exact this.elim
theorem ybk{i g:Nat}(h:kap2 100 D.g1 101 D.g2 i=some g):g∈[D.g1,D.g2]:=by
 unfold kap2 at h;split at h
 ·cases h;simp
 ·split at h
  ·cases h;simp
  ·cases h
def obs2(ss fz:List Nat)(σ:St):Option (z4n×List (Nat×Box)):=match frzs fz σ with
 |some τ=>some (obsE ss [100,101] τ,obsX [100,101] τ)
 |none=>none
theorem ycd{κ':Nat→Option Nat}{W:List Nat}{σ':St}{ss fz:List Nat}{l l':z4n}{x x':D.t1.den}{y y':D.t2.den}(hT:Two P D M l x y a w)(hR:Rel P 0 κ' M' σ' a' w')(hF:Fr 0 W (kap2 100 D.g1 101 D.g2) M (stB l (D.bs x y)) a w κ' M' σ' a' w')(hW:W.all (fun s => !(Nat.beq s 100) && !(Nat.beq s 101))=true)(hno:l'.all (fun e=>match e.2 with |.data _ _ o=>o.isEmpty|_=>true)=true)
  (ho:obs2 ss fz σ'=some (l',D.bs x' y')):∃M2,Two P D M2 l' x' y' a' w'∧Fra [D.g1,D.g2] M w M2 w':=by
 unfold obs2 at ho;split at ho;rotate_left
 ·cases ho
 rename_i τ hτ;simp only[qb,Prod.mk.injEq] at ho;obtain⟨M2,hR2,hF2⟩:=zdv hR hτ;have hFt:=hF.trans hF2 (fun s hs=>hs) fun s hs=>by cases hs
 have hRo:=zwf hR2 ss [100,101];rw[ho.1,ho.2] at hRo;have hnotW:∀i,i=100∨i=101→i∉W:=fun i hi hm=>by
  have:=List.all_eq_true.1 hW i hm;rcases hi with rfl|rfl<;>simp at this
 have hbox:∀i B,boxL (D.bs x' y') i=some B→∃B0,τ.box i=some B0:=fun i B hB=>by
  rw[←ho.2] at hB;have hm:=zky hB;simp only[obsX,List.mem_filterMap] at hm;obtain⟨b',_,hm⟩:=hm;split at hm
  ·rename_i B0 hB0;simp only[qb,Prod.mk.injEq] at hm;obtain⟨rfl,_⟩:=hm;exact⟨B0,hB0⟩
  ·cases hm
 obtain⟨B1,hB1⟩:=hbox 100 _ rfl;obtain⟨B2,hB2⟩:=hbox 101 _ rfl;have k1:κ' 100=some D.g1:=((hFt.bx 100 (hnotW 100 (.inl rfl)) B1 hB1).1).trans rfl;have k2:κ' 101=some D.g2:=((hFt.bx 101 (hnotW 101 (.inr rfl)) B2 hB2).1).trans rfl;refine⟨M2,⟨hR2.good,hT.ne,zqw k1 (hRo.bx 100 _ rfl),zqw k2 (hRo.bx 101 _ rfl),fun e he => ?_⟩,ycv hFt fun i g=>ybk⟩;have he':=he;rw[←ho.1] at he;simp only[obsE,List.mem_filterMap] at he;obtain⟨s,_,he⟩:=he;split at he
 ·rename_i t v o hv;simp only[qb] at he;subst he;have h:=hR2.env _ _ hv;have:=List.all_eq_true.1 hno _ he';exact⟨h.1,by simpa using this⟩
 ·rename_i u hv;simp only[qb] at he;subst he;exact hR2.env _ _ hv
 ·rename_i b p hv;cases hb:[100,101].any fun i=>Nat.beq i b with
  |false=>rw[hb] at he;cases he
  | true=>
   rw[hb,cond_true] at he;simp only[qb] at he;subst he;obtain⟨B,g,off,h1,h2,h3,h4⟩:=hR2.env _ _ hv;obtain⟨i,hi,hib⟩:=List.any_eq_true.1 hb;have:=qq hib;subst this;have key:∀ {b1:Nat} {tid:TypeId} {t:Ty} {z:t.den} {gg:Nat},i=b1→κ' b1=some gg→boxL (obsX [100,101] τ) b1=some ⟨tid,t,z,[],false⟩→b1∈[100,101]→∃off,offV t p=some off∧a'.tmps.getD s undef = .pointer (some ⟨gg,off,none⟩):=fun{b1 tid t z gg} e hk hx hm=>by
    subst e;rw[ztg hm h1] at hx;simp only[qb] at hx;obtain⟨tB,tyB,xB,oB,rB⟩:=B;unfold yb7 at hx;simp only[Box.mk.injEq] at hx;obtain⟨rfl,rfl,hx3,_,rfl⟩:=hx;rw[hk] at h2;cases h2;exact⟨off,h3,h4⟩
   simp only[List.mem_cons,List.not_mem_nil,or_false] at hi;rcases hi with rfl|rfl
   ·exact .inl ⟨rfl,key rfl k1 (by rw[ho.2];rfl) (by simp)⟩
   ·exact .inr ⟨rfl,key rfl k2 (by rw[ho.2];rfl) (by simp)⟩
 ·cases he
def zqb(ss fz:List Nat)(e:Ex)(τ:St):Option (Ex×z4n×List (Nat×Box)):=match obs2 ss fz τ with
 |some r=>some (e,r)
 |none=>none
def zhh(ss fz:List Nat)(τ:St)(_:Log):Option (z4n×List (Nat×Box)):=obs2 ss fz τ
def ok2(W:List Nat):Bool:=W.all (fun s => !(Nat.beq s 100) && !(Nat.beq s 101))
def noOwn(l:z4n):Bool:=l.all (fun e=>match e.2 with |.data _ _ o=>o.isEmpty|_=>true)
structure Keep2 (G:List Nat) (M:Mem) (a:Act) (w:World) (M':Mem) (a':Act) (w':World):Prop where
 fra:Fra G M w M' w'
 size:a'.tmps.size=a.tmps.size
 defers:a'.defers=a.defers
theorem zzo{base:Nat}{κ κ':Nat→Option Nat}{W:List Nat}{σ τ:St}(h:Fr base W κ M σ a w κ' M' τ a' w')(hn:noMark W=true):a'.defers=a.defers:=by
 obtain⟨ms,h1,_,_,h4⟩:=h.defers;cases ms with
 |nil=>exact h1
 |cons x l=>exact absurd (h4 (by simp)) (z7z hn)
theorem zg2(hm:P.follows .mixedOrders=true)(hC:COk P Γ){F:Fence}(hF:Open F){nn:Nat}(c:Code)(hro:(F.round=none∧1≤nn)∨z5j c=true){n:Ann}{l l':z4n}{fz ss:List Nat}{e:Ex}{x x':D.t1.den}{y y':D.t2.den}{Q:Exit→Act→World→Prop}
  (h:z29 Γ c n (stB l (D.bs x y)) (zqb ss fz)=some (e,l',D.bs x' y')) (hb:okB a.tmps.size c=true) (hnr:noMark (writes c)=true) (hW:ok2 (writes c)=true) (hno:noOwn l'=true) (hT:Two P D M l x y a w)
  (hQ:∀M' a' w',Two P D M' l' x' y' a' w'→Keep2 [D.g1,D.g2] M a w M' a' w'→Q (exOf e) a' w'):c.wpIn F nn P Q a w:=by
 refine z6a hm hC hF c hro h hb (y6u hT) fun e' κ' M' σ' a' w' hR' hF' hk => ?_
 unfold zqb at hk;split at hk
 ·rename_i r hr;simp only[qb,Prod.mk.injEq] at hk;obtain⟨rfl,rfl⟩:=hk;obtain⟨M2,h1,h2⟩:=ycd hT hR' hF' hW hno hr;exact hQ M2 a' w' h1 ⟨h2,hF'.size,zzo hF' hnr⟩
 ·cases hk
theorem z7h(hC:COk P Γ){ops:Array Oper}{F:Fence}(hF:Open F){n:Nat}{Q:Exit→Act→World→Prop}{l l':z4n}{fz ss:List Nat}{n0:Nat}{x x':D.t1.den}{y y':D.t2.den}(i j:Nat){rest:List Nat}(hl:rest=List.range' i (ops.size-i))(hj:i+j≤ops.size)
  (h:z3f Γ ops.toList (List.range' i j) (stB l (D.bs x y)) [] (zhh ss fz)=some (l',D.bs x' y')) (hsz:a.tmps.size=n0) (h2:(z2v ops.toList).all (fun d=>Nat.blt d n0)=true) (hnr:noMark (z2v ops.toList)=true) (hW:ok2 (z2v ops.toList)=true) (hno:noOwn l'=true) (hT:Two P D M l x y a w)
  (hQ:∀M' a' w',Two P D M' l' x' y' a' w'→Keep2 [D.g1,D.g2] M a w M' a' w'→wpOpsIn F n P ops Q (List.range' (i+j) (ops.size-(i+j))) a' w'):wpOpsIn F n P ops Q rest a w:=by
 subst hsz hl;obtain⟨τ,lg,hch,hk,_,_⟩:=zc4 h List.nodup_range' (fun e he=>by simp at he);have hsplit:List.range' i (ops.size-i)=List.range' i j++List.range' (i+j) (ops.size-(i+j)):=by
  rw[List.range'_append_1];congr 1;omega
 rw[hsplit];refine zmt hC hF hch (y6u hT) (zmm h2) fun κ' M' a' w' hR' hF' => ?_
 obtain⟨M2,k1,k2⟩:=ycd hT hR' hF' hW hno hk;exact hQ M2 a' w' k1 ⟨k2,hF'.size,zzo hF' hnr⟩
theorem Two.call{l:z4n}{x x':D.t1.den}{y y':D.t2.den}{d:Nat}{v:AVal}{u:Value}(h:Two P D M l x y a w)(hF:Fra [D.g1,D.g2] M w M' w')(hg:Good M' w')(h1:z4e P M' w' D.g1 D.t1 x')(h2:z4e P M' w' D.g2 D.t2 y')(hd:d < a.tmps.size)(hv:relS P D M' v u)(hl:l.all (fun e => !(Nat.beq e.1 d))=true) :
  Two P D M' ((d,v)::l) x' y' (a.put (some d) u) w':=by
 refine⟨hg,h.ne,h1,h2,fun e he => ?_⟩;rcases List.mem_cons.1 he with rfl|he
 ·rw[znj a d u hd];exact hv
 ·have:=List.all_eq_true.1 hl e he;rw[z6v a (some d) u e.1 (fun k=>by
   simp only[qb] at k;rw[←k,Nat.beq_refl] at this;cases this)]
  exact y7l hF.le (h.env e he)
theorem Two.sub{l m:z4n}{x:D.t1.den}{y:D.t2.den}(h:Two P D M l x y a w)(hs:∀e∈m,e∈l):Two P D M m x y a w:=⟨h.good,h.ne,h.b1,h.b2,fun e he=>h.env e (hs e he)⟩
end Go.Lift
namespace Go.Lift
open Go Go.RowKit
variable [Tab] [Mf]
variable {P:Program} {w:World}
theorem y0q{k v:Ty}(hk:k.scal=true)(hv:v.scal=true){T:TypeId}(ht:fits P (.mapT k v) (.inl T)=true){g:Nat}{es:Array MapEntry}{cl:Nat}{l:List (k.den×v.den)}(hb:w.heap[g]?=some (.map es cl))(hl:z6i k v l es)(j:k.den) :
  (Instr.lookup T (.map (some g)) (encS k j) true).run P w = .ok (.tuple #[encS v (mget k v l j),.bool (l.find? fun p=>k.eqb j p.1).isSome]) w:=by
 obtain⟨K,V,hu,_,_,hfk,hfv,iv,hiv,hz⟩:=zma ht;obtain⟨ik,dk,hik⟩:=z0l hfk;have hck:=MapKept.run_checkKey (w:=w) hik.und (zfh hk hfk hik.und j) es.isEmpty 9999;rcases zhu hk hfk hik.und j es.toList l 0 hl with⟨g1,_,g3⟩|⟨n,pre,p,post,g1,g2,g3,g4,_,g5⟩
 ·have hfind:=MapKept.run_findKey (w:=w) hik.und g1;have hm:mget k v l j=v.dflt:=by unfold mget;rw[g3]
  rw[hm,g3];simp only[Instr.lookup,Sem.run_bind,run_underlying hu,Result.andThen_ok,MapKept.run_getObj_map hb,Sem.run_pure,hck,hfind,zrh hiv hz];rfl
 ·have hfind:=MapKept.run_findKey (w:=w) hik.und g1;have hm:mget k v l j=p.2:=by unfold mget;rw[g5]
  rw[hm,g5];simp only[Instr.lookup,Sem.run_bind,run_underlying hu,Result.andThen_ok,MapKept.run_getObj_map hb,Sem.run_pure,hck,hfind];rfl
end Go.Lift
