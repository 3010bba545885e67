/-
  A range over a sequence that is handed out once.
-/
import Derived.Test.YtggnjngdmadbaaaGreatDoorLiftH
set_option linter.all false
namespace Go.Lift
open Go Go.RowKit
variable [wB] [Mf]
variable {P:Program} {base:Nat} {κ κ':Nat→Option Nat} {M M':Mem} {σ σ':St} {a a':Act} {w w':World}
def cY{X:Type}(M:Mem)(G:Nat)(I:List X→World→Prop)(Ix:Code→List X→World→Prop)(xs:List X)(W:World):Exit→Act→World→Prop
 |.normal,_,W'=>KeepsOthers W W'∧znh M W W'∧W'.heap[G]?=W.heap[G]?∧I xs W'
 |.ret,_,W'=>KeepsOthers W W'∧Ix .ret xs W'
 |.exit id,_,W'=>KeepsOthers W W'∧Ix (.exit id) xs W'
 |_,_,_=>False
omit [wB] [Mf]in
theorem y4v{M:Mem}{W:World}{l:Nat}{o o':Obj}(h:W.heap[l]?=some o)(hc:o.isCells=false):znh M W (W.putObj l o'):=by
 intro b off v _ hv;refine(za (w:=W) (zt (fun k =>?_))).trans hv;obtain⟨ob,h1,h2⟩:∃o:Obj,W.heap[b]?=some o∧o.isCells=true:=by
  unfold World.cell? at hv;simp only at hv;split at hv
  ·rename_i c t fr hb;exact⟨_,hb,rfl⟩
  ·cases hv
 have e:l=b:=k.symm;subst e;rw[h]at h1;cases h1;rw[hc]at h2;cases h2
omit [wB] [Mf]in
theorem Lj{G:Nat}{A B:World}(h:lT G A B){j:Nat}{o:Obj}(hj:A.heap[j]?=some o)(ho:o.isCells=false):B.heap[j]?=some o:=by
 rw[h.same j fun e =>?_]
 ·exact hj
 ·obtain⟨_,_,_,h1,_⟩:=h.own;rw[e,h1]at hj;cases hj;cases ho
omit [wB] [Mf]in
theorem zun{F:Fence}{n:Nat}{g:Operand}{ps:Array Tmp}{assign body:Code}{Q:Exit→Act→World→Prop}
  (hro:F.round=none) (h1:1≤n) (rm:F.depth=none) (Fl:∀f,F.fn f) (Yu:F.alive=false) {gf:Nat} {lb:Array Value} (hg:a.eval g = .func (.func gf) #[] lb) {X:Type} {enc:X→Value} {G:Nat} {Fs:js→Option (List X)} (hit:zwn P enc M gf lb G Fs)
  {s:js} {xs:List X} {E:TypeId} (hs:Fs s=some xs) (hM:∀b o v,M b o=some v→w.cell? ⟨b,o,none⟩=some v) (hG:w.heap[G]?=some (.cells #[.string s] E (0,0))) (Ml:∀o,M G o=none) (Zr:ps.size=1)
  (I:List X→World→Prop) (Ix:Code→List X→World→Prop) (hI:OwnFrom w.heap.size I) (aI:∀c,OwnFrom w.heap.size (Ix c)) (DR:∀pre A B,I pre A→lT G A B→I pre B) (h0:I [] w) (a₁:X→Act)
  (Xc:∀(l:Nat) (x:X) (W:World) (K:Act→World→Prop),K (a₁ x) W→
   assign.wpIn (F.inRound l) (n-1-1) P (Exit.then K (fun _ _ _=>False)) {tmps:=(ps.zip #[enc x]).foldl (fun t (p,v)=>t.setIfInBounds p v) a.tmps,defers:=[]} W)
  (QB:∀(l:Nat) (pre:List X) (x:X) (W:World),I pre W→pre++[x] <+: xs→W.heap[G]?.isSome=true→body.wpIn (F.inRound l) (n-1-1) P (cY M G I Ix (pre++[x]) W) (a₁ x) W)
  (JK:∀(D:Nat) (W:World),w.heap.size≤D→I xs W→W.heap[D]?=some (.deferred (some []))→Q .normal {a with defers:={target :=.collected D,args := #[]}::a.defers} W)
  (Qe:∀(D:Nat) (c:Code) (pre:List X) (W:World),w.heap.size≤D→pre <+: xs→Ix c pre W→W.heap[D]?=some (.deferred (some []))→c.wpIn F n P Q {a with defers:={target :=.collected D,args := #[]}::a.defers} W):
  (Code.rangeFunc g ps assign body).wpIn F n P Q a w:=by
 refine wpIn_rangeFunc fun fn hf =>?_
 rw[hro];obtain⟨R,hR⟩:∃R:LoopState→Option Code→Loop,R=fun st pe=>⟨st,pe,fn,a.tmps,ps,assign,body,w.heap.size⟩:=⟨_,rfl⟩
 obtain⟨V,hV⟩:∃V,(w.alloc (.deferred (some []))).alloc (.loop (R .ready none))=V:=⟨_,rfl⟩
 have vL:V.heap[w.heap.size+1]?=some (.loop (R .ready none)):=by
  have:=qz (w.alloc (.deferred (some []))) (.loop (R .ready none));rwa [qQ,hV]at this
 have GZ:∀j,j<w.heap.size→V.heap[j]?=w.heap[j]?:=fun j hj=>by
  rw[←hV,yB _ _ _ (by simp;omega),yB _ _ _ hj]
 have vD:V.heap[w.heap.size]?=some (.deferred (some [])):=by
  rw[←hV];exact(yB _ _ _ (by simp)).trans (qz w _)
 have gl:G<w.heap.size:=(qd.1 hG).1;have vI:I [] V:=by rw[←hV];exact hI.alloc _ (hI.alloc _ h0)
 have vM:∀b o v,M b o=some v→V.cell? ⟨b,o,none⟩=some v:=fun b o v hv=>
  (za (w:=w) (GZ b (zc w _ (hM b o v hv)))).trans (hM b o v hv)
 have XC:∀{st:LoopState} {pe:Option Code} {A B:World} {row:Option Nat},A.grownBy B row→(∀r,row=some r→V.heap.size≤r∧∃o:Obj,A.heap[r]?=some o∧o.isWalk=true)→
   (A.heap[w.heap.size+1]?=some (.loop (R st pe))∧A.heap[w.heap.size]?=some (.deferred (some [])))→(B.heap[w.heap.size+1]?=some (.loop (R st pe))∧B.heap[w.heap.size]?=some (.deferred (some []))):=fun DE hr h=>
  ⟨(grownBy_keeps DE (fun r e=>(hr r e).2) h.1 rfl).trans h.1,(grownBy_keeps DE (fun r e=>(hr r e).2) h.2 rfl).trans h.2⟩
 have Jm:∀{A:World} {row:Option Nat},(∀r,row=some r→V.heap.size≤r∧∃o:Obj,A.heap[r]?=some o∧o.isWalk=true)→∀r,row=some r→w.heap.size≤r∧∃o:Obj,A.heap[r]?=some o∧o.isCells=false:=fun hr r e=>by
  obtain⟨h1,o,h2,h3⟩:=hr r e;exact⟨by rw[←hV]at h1;simp at h1;omega,o,h2,Obj.not_cells_of_walk h3⟩
 refine⟨w.heap.size+1,[{target :=.collected w.heap.size,args := #[]}],V,{target :=.fn (.func gf) lb,args := #[.func (.yield (w.heap.size+1)) #[] #[]]},V,gf,
  #[.func (.yield (w.heap.size+1)) #[] #[]]++lb,V,?_,?_,fun f' _=>Fl f',?_,fun _=>h1,?_⟩
 ·rw[←hV,hR];exact run_enterLoop_outer _ _ _ _ _
 ·simp only[resolve,hg];simp[go_sem]
 ·simp[invoke,go_sem,hit.1]
 refine(hit.2 s xs hs F (n-1) (w.heap.size+1)
  (fun pre W=>I pre W∧W.heap[w.heap.size+1]?=some (.loop (R .ready none))∧W.heap[w.heap.size]?=some (.deferred (some [])))
  (fun pre W=>∃c,Ix c pre W∧W.heap[w.heap.size+1]?=some (.loop (R .done (some c)))∧W.heap[w.heap.size]?=some (.deferred (some [])))
  V E rm Fl Yu hro vM ((GZ G gl).trans hG) Ml ?_ ?_ ?_ ?_ ⟨vI,vL,vD⟩).mono ?_
 ·exact fun pre A B row hs DE hr=>⟨hI pre A B row hs.1 DE (Jm hr),XC DE hr hs.2⟩
 ·rintro pre A B row ⟨c,hc,hs⟩ DE hr;exact⟨c,aI c pre A B row hc DE (Jm hr),XC DE hr hs⟩
 ·exact fun pre A B hs ho=>⟨DR pre A B hs.1 ho,Lj ho hs.2.1 rfl,Lj ho hs.2.2 rfl⟩
 ·
  rintro pre x W ⟨hi,hl,hk⟩ vc;have hlt:=(qd.1 hl).1;have hy:=run_yield (P:=P) (args := #[enc x]) hl (by rw[hR];exact Zr.symm);rw[hR]at hy;refine⟨fn,_,assign,body,hy,roundIn_of_wpIn hf (Xc _ x W _ ⟨_,run_beginRound hl (by rw[hR]),?_⟩)⟩;obtain⟨U,hU⟩:∃U,W.putObj (w.heap.size+1) (.loop {R .ready none with state :=.busy})=U:=⟨_,rfl⟩
  have uL:U.heap[w.heap.size+1]?=some (.loop {R .ready none with state :=.busy}):=by rw[←hU];exact xq hlt
  have uD:U.heap[w.heap.size]?=some (.deferred (some [])):=by rw[←hU];exact(zt (by omega)).trans hk
  have uM:znh M W U:=by rw[←hU];exact y4v hl rfl
  have uG:U.heap[G]?=W.heap[G]?:=by rw[←hU];exact zt (by omega)
  have uI:I pre U:=by rw[←hU];exact hI.putObj _ hi (by omega) hl rfl
  have wl:w.heap.size+1<U.heap.size:=(qd.1 uL).1;rw[hU];refine wpIn_mono (QB _ pre x _ uI vc (by rw[qZ (by omega)];rfl)) ?_;have VZ:∀(jump:Option Code) (T:World),KeepsOthers U T→T.heap[w.heap.size+1]?=some (.loop {R .ready none with state :=.busy})∧
    (Instr.endRound (w.heap.size+1) jump).run P T = .ok (.bool jump.isNone) (T.putObj (w.heap.size+1) (.loop (R (if jump.isNone then .ready else .done) jump)))∧
    (T.putObj (w.heap.size+1) (.loop (R (if jump.isNone then .ready else .done) jump))).heap[w.heap.size+1]?=some (.loop (R (if jump.isNone then .ready else .done) jump))∧
    (T.putObj (w.heap.size+1) (.loop (R (if jump.isNone then .ready else .done) jump))).heap[w.heap.size]?=some (.deferred (some [])):=fun jump T hT=>by
   have tL:=hT.same _ _ uL rfl;have hr:=run_endRound (P:=P) jump tL;rw[hR]at hr tL⊢;exact⟨tL,hr,xq (qd.1 tL).1,(zt (by omega)).trans (hT.same _ _ uD rfl)⟩
  rintro e a3 T hp;cases e with
  |normal=>
   obtain⟨hT,kT,gT,iT⟩:=hp;obtain⟨tL,hr,Jg,tD⟩:=VZ none T hT;exact⟨_,_,hr,.inl ⟨rfl,⟨hI.putObj _ iT (by omega) tL rfl,Jg,tD⟩,(uM.trans kT).trans (y4v tL rfl),((zt (by omega)).trans gT).trans uG⟩⟩
  |ret=>
   obtain⟨hT,iT⟩:=hp;obtain⟨tL,hr,Jg,tD⟩:=VZ (some .ret) T hT;exact⟨_,_,hr,.inr ⟨rfl,.ret,(aI _).putObj _ iT (by omega) tL rfl,Jg,tD⟩⟩
  |exit id=>
   obtain⟨hT,iT⟩:=hp;obtain⟨tL,hr,Jg,tD⟩:=VZ (some (.exit id)) T hT;exact⟨_,_,hr,.inr ⟨rfl,.exit id,(aI _).putObj _ iT (by omega) tL rfl,Jg,tD⟩⟩
  |goto t=>exact hp.elim
  |panic ch=>exact hp.elim
  |outgrown=>exact hp.elim
 ·
  rintro e T ⟨⟨v,rfl⟩,⟨hi,hl,hk⟩|⟨pre,vc,c,hi,hl,hk⟩⟩
  ·have hr:=jr (P:=P) hl (by rw[hR];simp);rw[hR]at hr;exact⟨none,_,hr,JK _ _ (ql _) (hI.putObj _ hi (by omega) hl rfl) ((zt (by omega)).trans hk)⟩
  ·have hr:=jr (P:=P) hl (by rw[hR];simp);rw[hR]at hr;exact⟨some c,_,hr,Qe _ c pre _ (ql _) vc ((aI c).putObj _ hi (by omega) hl rfl) ((zt (by omega)).trans hk)⟩
def cX{X:Type}(I:List X→Mem→World→Prop)(Ix:Code→List X→Mem→World→Prop)(xs:List X)(N:Mem)(W:World):Exit→Act→World→Prop
 |.normal,_,W'=>KeepsOthers W W'∧∃N',Mem.le N N'∧I xs N' W'
 |.ret,_,W'=>KeepsOthers W W'∧∃N',Mem.le N N'∧Ix .ret xs N' W'
 |.exit id,_,W'=>KeepsOthers W W'∧∃N',Mem.le N N'∧Ix (.exit id) xs N' W'
 |_,_,_=>False
omit [Mf]in
theorem I7{F:Fence}{n:Nat}{g:Operand}{ps:Array Tmp}{assign body:Code}{Q:Exit→Act→World→Prop}
  (hro:F.round=none) (h1:1≤n) (rm:F.depth=none) (Fl:∀f,F.fn f) (Yu:F.alive=false) {gf:Nat} {lb:Array Value} (hg:a.eval g = .func (.func gf) #[] lb) {X:Type} {R:Mem→X→Value→Prop} {xs:List X} (H7:y17 P R M xs gf lb) (Zr:ps.size=1)
  (I:List X→Mem→World→Prop) (Ix:Code→List X→Mem→World→Prop) (Mp:∀pre N W,I pre N W→Good N W) (fj:∀c pre N W,Ix c pre N W→Good N W) (hI:EU I) (aI:∀c,EU (Ix c))
  (DR:∀pre N,OwnFrom w.heap.size fun(_:Unit) W=>I pre N W) (Gt:∀c pre N,OwnFrom w.heap.size fun(_:Unit) W=>Ix c pre N W) (h0:I [] M w)
  (Ax:List X→X→Mem→Act→World→Prop) (Mr:∀pre x N a',OwnFrom w.heap.size fun(_:Unit) W=>Ax pre x N a' W)
  (Xc:∀(l:Nat) (pre:List X) (x:X) (N:Mem) (W:World) (v:Value) (K:Act→World→Prop),I pre N W→pre++[x] <+: xs→R N x v→(∀N' a' W',Mem.le N N'→KeepsOthers W W'→Ax pre x N' a' W'→K a' W')→
   assign.wpIn (F.inRound l) (n-1-1) P (Exit.then K (fun _ _ _=>False)) {tmps:=(ps.zip #[v]).foldl (fun t (p,v)=>t.setIfInBounds p v) a.tmps,defers:=[]} W)
  (QB:∀(l:Nat) (pre:List X) (x:X) (N:Mem) (a':Act) (W:World),Ax pre x N a' W→pre++[x] <+: xs→body.wpIn (F.inRound l) (n-1-1) P (cX I Ix (pre++[x]) N W) a' W)
  (JK:∀(D:Nat) (N:Mem) (W:World),w.heap.size≤D→I xs N W→W.heap[D]?=some (.deferred (some []))→Q .normal {a with defers:={target :=.collected D,args := #[]}::a.defers} W)
  (Qe:∀(D:Nat) (c:Code) (pre:List X) (N:Mem) (W:World),w.heap.size≤D→pre <+: xs→Ix c pre N W→W.heap[D]?=some (.deferred (some []))→c.wpIn F n P Q {a with defers:={target :=.collected D,args := #[]}::a.defers} W):
  (Code.rangeFunc g ps assign body).wpIn F n P Q a w:=by
 refine wpIn_rangeFunc fun fn hf =>?_
 rw[hro];obtain⟨Rc,hR⟩:∃Rc:LoopState→Option Code→Loop,Rc=fun st pe=>⟨st,pe,fn,a.tmps,ps,assign,body,w.heap.size⟩:=⟨_,rfl⟩
 obtain⟨V,hV⟩:∃V,(w.alloc (.deferred (some []))).alloc (.loop (Rc .ready none))=V:=⟨_,rfl⟩
 have vL:V.heap[w.heap.size+1]?=some (.loop (Rc .ready none)):=by
  have:=qz (w.alloc (.deferred (some []))) (.loop (Rc .ready none));rwa [qQ,hV]at this
 have GZ:∀j,j<w.heap.size→V.heap[j]?=w.heap[j]?:=fun j hj=>by
  rw[←hV,yB _ _ _ (by simp;omega),yB _ _ _ hj]
 have vD:V.heap[w.heap.size]?=some (.deferred (some [])):=by
  rw[←hV];exact(yB _ _ _ (by simp)).trans (qz w _)
 have put:∀{S:World→Prop} (_:OwnFrom w.heap.size fun(_:Unit) W=>S W) {A:World} {j:Nat} {o:Obj} (o':Obj),S A→w.heap.size≤j→A.heap[j]?=some o→o.isCells=false→S (A.putObj j o'):=fun hS _ _ _ o' h hj hl ho=>OwnFrom.putObj hS (s:=()) o' h hj hl ho
 have vI:I [] M V:=by rw[←hV];exact OwnFrom.alloc (DR [] M) (s:=()) _ (OwnFrom.alloc (DR [] M) (s:=()) _ h0)
 refine⟨w.heap.size+1,[{target :=.collected w.heap.size,args := #[]}],V,{target :=.fn (.func gf) lb,args := #[.func (.yield (w.heap.size+1)) #[] #[]]},V,gf,
  #[.func (.yield (w.heap.size+1)) #[] #[]]++lb,V,?_,?_,fun f' _=>Fl f',?_,fun _=>h1,?_⟩
 ·rw[←hV,hR];exact run_enterLoop_outer _ _ _ _ _
 ·simp only[resolve,hg];simp[go_sem]
 ·simp[invoke,go_sem,H7.1]
 have XC:∀{st:LoopState} {pe:Option Code} {A B:World} {N N':Mem},vm N A N' B→(A.heap[w.heap.size+1]?=some (.loop (Rc st pe))∧A.heap[w.heap.size]?=some (.deferred (some [])))→
   (B.heap[w.heap.size+1]?=some (.loop (Rc st pe))∧B.heap[w.heap.size]?=some (.deferred (some []))):=fun hg h=>
  ⟨(hg.below.block _ (qd.1 h.1).1).trans h.1,(hg.below.block _ (qd.1 h.2).1).trans h.2⟩
 refine(H7.2 F (n-1) (w.heap.size+1)
  (fun pre N W=>I pre N W∧W.heap[w.heap.size+1]?=some (.loop (Rc .ready none))∧W.heap[w.heap.size]?=some (.deferred (some [])))
  (fun pre N W=>∃c,Ix c pre N W∧W.heap[w.heap.size+1]?=some (.loop (Rc .done (some c)))∧W.heap[w.heap.size]?=some (.deferred (some [])))
  M V (Mem.le_refl M) rm Fl Yu hro (fun pre N W h=>Mp pre N W h.1) (fun pre N W ⟨c,h,_⟩=>fj c pre N W h) ?_ ?_ ?_ ⟨vI,vL,vD⟩).mono ?_
 ·exact fun pre N A N' B hs hg jZ=>⟨hI pre N A N' B hs.1 hg jZ,XC jZ hs.2⟩
 ·rintro pre N A N' B ⟨c,hc,hs⟩ hg jZ;exact⟨c,aI c pre N A N' B hc hg jZ,XC jZ hs⟩
 ·
  rintro pre x N W v ⟨hi,hl,hk⟩ vc hv;have hy:=run_yield (P:=P) (args := #[v]) hl (by rw[hR];exact Zr.symm);rw[hR]at hy;refine⟨fn,_,assign,body,hy,roundIn_of_wpIn hf (Xc _ pre x N W v _ hi vc hv fun N1 a1 W1 eY JE O6 =>?_)⟩;have XE:=JE.same _ _ hl rfl;have XF:=JE.same _ _ hk rfl;have hlt:=(qd.1 XE).1;refine⟨_,run_beginRound XE (by rw[hR]),?_⟩;obtain⟨U,hU⟩:∃U,W1.putObj (w.heap.size+1) (.loop {Rc .ready none with state :=.busy})=U:=⟨_,rfl⟩
  have uL:U.heap[w.heap.size+1]?=some (.loop {Rc .ready none with state :=.busy}):=by rw[←hU];exact xq hlt
  have uD:U.heap[w.heap.size]?=some (.deferred (some [])):=by rw[←hU];exact(zt (by omega)).trans XF
  have uA:Ax pre x N1 a1 U:=by rw[←hU];exact put (Mr pre x N1 a1) _ O6 (by omega) XE rfl
  rw[hU];refine wpIn_mono (QB _ pre x N1 a1 _ uA vc) ?_;have VZ:∀(jump:Option Code) (T:World),KeepsOthers U T→T.heap[w.heap.size+1]?=some (.loop {Rc .ready none with state :=.busy})∧
    (Instr.endRound (w.heap.size+1) jump).run P T = .ok (.bool jump.isNone) (T.putObj (w.heap.size+1) (.loop (Rc (if jump.isNone then .ready else .done) jump)))∧
    (T.putObj (w.heap.size+1) (.loop (Rc (if jump.isNone then .ready else .done) jump))).heap[w.heap.size+1]?=some (.loop (Rc (if jump.isNone then .ready else .done) jump))∧
    (T.putObj (w.heap.size+1) (.loop (Rc (if jump.isNone then .ready else .done) jump))).heap[w.heap.size]?=some (.deferred (some [])):=fun jump T hT=>by
   have tL:=hT.same _ _ uL rfl;have hr:=run_endRound (P:=P) jump tL;rw[hR]at hr tL⊢;exact⟨tL,hr,xq (qd.1 tL).1,(zt (by omega)).trans (hT.same _ _ uD rfl)⟩
  rintro e a3 T hp;cases e with
  |normal=>
   obtain⟨hT,N',JR,iT⟩:=hp;obtain⟨tL,hr,Jg,tD⟩:=VZ none T hT;exact⟨_,_,hr,N',Mem.le_trans eY JR,.inl ⟨rfl,put (DR _ N') _ iT (by omega) tL rfl,Jg,tD⟩⟩
  |ret=>
   obtain⟨hT,N',JR,iT⟩:=hp;obtain⟨tL,hr,Jg,tD⟩:=VZ (some .ret) T hT;exact⟨_,_,hr,N',Mem.le_trans eY JR,.inr ⟨rfl,.ret,put (Gt _ _ N') _ iT (by omega) tL rfl,Jg,tD⟩⟩
  |exit id=>
   obtain⟨hT,N',JR,iT⟩:=hp;obtain⟨tL,hr,Jg,tD⟩:=VZ (some (.exit id)) T hT;exact⟨_,_,hr,N',Mem.le_trans eY JR,.inr ⟨rfl,.exit id,put (Gt _ _ N') _ iT (by omega) tL rfl,Jg,tD⟩⟩
  |goto t=>exact hp.elim
  |panic ch=>exact hp.elim
  |outgrown=>exact hp.elim
 ·
  rintro e T ⟨⟨v,rfl⟩,N',_,⟨hi,hl,hk⟩|⟨pre,vc,c,hi,hl,hk⟩⟩
  ·have hr:=jr (P:=P) hl (by rw[hR];simp);rw[hR]at hr;exact⟨none,_,hr,JK _ N' _ (ql _) (put (DR _ N') _ hi (by omega) hl rfl) ((zt (by omega)).trans hk)⟩
  ·have hr:=jr (P:=P) hl (by rw[hR];simp);rw[hR]at hr;exact⟨some c,_,hr,Qe _ c pre N' _ (ql _) vc (put (Gt c _ N') _ hi (by omega) hl rfl) ((zt (by omega)).trans hk)⟩
theorem y1q{G:Nat}(hR:jW P base κ M σ a w)(Ys:∀i,κ i≠some G)(Ml:∀o,M G o=none)(h:lT G w w'):jW P base κ M σ a w':=by
 have hh:∀i,Holds κ M w κ M w' i:=fun i=>⟨rfl,fun g hg=>⟨h.same g (fun e=>Ys i (by rw[hg,e])),fun _=>rfl⟩⟩
 refine⟨fun s v hs=>(hR.env s v hs).turn (Mem.le_refl M) (fun _ _=>rfl) (fun i _ ht=>⟨ht,hh i⟩) (fun i B _ hB=>⟨B,hB,Alike.refl B⟩),fun b B hB=>(hR.bx b B hB).turn (Mem.le_refl M) (hh b) (fun _ k _ ht=>⟨ht,hh k⟩),
  ⟨wB.keep (w:=w) (Mem.le_refl M) (fun j c t fr hc =>?_) hR.good.1,fun b o v hv =>?_⟩,hR.inj,fun i g hi=>⟨(hR.kap i g hi).1,by rw[h.size];exact(hR.kap i g hi).2⟩,hR.dis,by rw[h.size];exact hR.low⟩
 ·by_cases e:j=G
  ·subst e;obtain⟨s1,s2,E,h1,h2⟩:=h.own;rw[h1]at hc;simp only[qb,xV]at hc;obtain⟨rfl,rfl,rfl⟩:=hc;exact⟨_,_,h2,rfl⟩
  ·exact⟨c,fr,(h.same j e).trans hc,rfl⟩
 ·have ju:b≠G:=fun e=>by rw[e,Ml]at hv;cases hv
  exact(za (w:=w) (h.same b ju)).trans (hR.good.2 b o v hv)
theorem y72{G:Nat}{W:List Nat}{iW:World}(hF:Fr base W κ M σ a w κ' M' σ' a' w')(YH:base≤G)(hd:a'.defers=a.defers)(Ys:∀i,κ' i≠some G)(Th:(∃i,κ i=some G)∨w.heap.size≤G)(h:lT G w' iW):Fr base W κ M σ a w κ' M' σ' a' iW:=by
 refine⟨⟨h.below.os.trans hF.below.os,h.below.tape.trans hF.below.tape,h.below.output.trans hF.below.output,by rw[h.size];exact hF.below.size,fun k hk=>(h.same k (by omega)).trans (hF.below.block k hk)⟩,hF.le,hF.mem,hF.size,.of_eq hd,hF.tmps,fun i hi eH =>?_,hF.bx,fun j o hj ho =>?_,.of (fun j hj hn=>(h.same j fun e =>?_).trans (hF.same.frame j hj hn)) hF.same.src hF.same.mem⟩
 ·obtain⟨d1,e1,e2⟩:=hF.ids i hi eH;exact⟨d1,e1,fun g hg=>⟨(h.same g (fun e=>Ys i (by rw[e1,hg,e]))).trans (e2 g hg).1,(e2 g hg).2⟩⟩
 ·have Y9:=hF.oth j o hj ho;rw[h.same j fun e =>?_]
  ·exact Y9
  ·obtain⟨_,_,_,h1,_⟩:=h.own;rw[e,h1]at Y9;cases Y9;cases ho
 ·subst e;rcases Th with⟨i,hi⟩|h
  ·exact hn i hi
  ·omega
theorem ydr{k:Nat}{g:Option Nat}(hR:jW P base κ M σ a w)(hb:σ.box k=none)(ht:σ.tok k=false)(hg:∀G,g=some G→base≤G∧G<w.heap.size∧∀i,κ i≠some G):jW P base (vH κ k g) M σ a w:=by
 have hu:∀i,i≠k→vH κ k g i=κ i:=fun i hi=>vN _ _ _ _ hi
 have hh:∀i,i≠k→Holds κ M w (vH κ k g) M w i:=fun i hi=>⟨hu i hi,fun _ _=>⟨rfl,fun _=>rfl⟩⟩
 refine⟨fun s v hs =>?_,fun b B hB =>?_,hR.good,fun i j G hi hj =>?_,fun i G hi =>?_,hR.dis,hR.low⟩
 ·have hA:=hR.env s v hs;have hl:∀i,v.leans i→i≠k:=fun i hi e=>TU hb ht hA (e▸hi)
  exact hA.turn (Mem.le_refl M) (fun i hi=>hu i (hl i hi)) (fun i hi h=>⟨h,hh i (hl i hi)⟩) (fun i B _ hB=>⟨B,hB,Alike.refl B⟩)
 ·have HE:b≠k:=fun e=>by rw[e,hb]at hB;cases hB
  exact(hR.bx b B hB).turn (Mem.le_refl M) (hh b HE) fun p j hm h=>⟨h,hh j fun e=>by rw[e,ht]at h;cases h⟩
 ·by_cases e1:i=k
  ·subst e1;rw[jy]at hi;by_cases e2:j=i
   ·exact e2.symm
   ·rw[hu j e2]at hj;exact absurd hj ((hg G hi).2.2 j)
  ·rw[hu i e1]at hi;by_cases e2:j=k
   ·subst e2;rw[jy]at hj;exact absurd hi ((hg G hj).2.2 i)
   ·rw[hu j e2]at hj;exact hR.inj i j G hi hj
 ·by_cases e:i=k
  ·subst e;rw[jy]at hi;exact⟨(hg G hi).1,(hg G hi).2.1⟩
  ·rw[hu i e]at hi;exact hR.kap i G hi
end Go.Lift
