/-
  What it means that memory represents pure values.
-/
import Derived.Test.YtggnjngdmadbaaaGreatDoorLiftA
import Derived.OrdersIn
import Derived.RangeFuncFrom
import Derived.RangeFuncBound
set_option linter.all false
abbrev qt:=@Go.Result.andThen_ok
abbrev qy:=@Go.Sem.run_bind
abbrev qz:=@Go.World.alloc_heap_new
abbrev qD:=@Go.Sem.run_pure
abbrev qG:=@Go.run_underlying
abbrev qN:=@Go.RowKit.Below.refl
abbrev qQ:=@Go.World.size_alloc
abbrev za:=@Go.World.cell?_of_block
abbrev zc:=@Go.World.block_lt_of_cell?
abbrev zq:=@Go.wpIn_seq
abbrev zt:=@Go.World.putObj_heap_other
abbrev zu:=@Go.bodyPost_ret
abbrev zy:=@Go.callsIn_of_wp
abbrev zH:=@Go.MapKept.run_getObj_map
abbrev zU:=@Go.MapKept.run_findKey
abbrev yi:=@Go.results_tmp
abbrev yB:=@Go.RowKit.Below.heap_alloc
abbrev yI:=@Go.Oper.uponIn_value
abbrev yN:=@Go.getD_set_ne
abbrev yS:=@Go.MapKept.run_checkKey
abbrev yT:=@Go.Calls.mono
abbrev yW:=@Go.MapKept.run_setObj_map
abbrev xd:=@Go.wpIn_cond_split
abbrev xo:=@Go.wpOpsIn_cons
abbrev xq:=@Go.World.putObj_heap_same
abbrev xx:=@Go.wpIn_block
abbrev xN:=@Go.World.grownBy_alloc
abbrev xO:=@Go.wpIn_region
abbrev xX:=@Go.Sem.run_map
abbrev xY:=@Go.Oper.uponIn_enter
abbrev xZ:=@Go.callsIn_wide
abbrev ko:=@Go.run_eqGuard_agg
abbrev kI:=@Go.ByteArray.toList_eq
abbrev kJ:=@Go.callsIn_of_wp_marks
abbrev ja:=@Go.heap_alloc_new
abbrev jc:=@Go.wpList_append_own
abbrev ji:=@Go.mem_ready
abbrev jk:=@Go.wpIn_skip
abbrev jo:=@Go.Oper.semAt_eq
abbrev jq:=@Go.wpIn_ret
abbrev jr:=@Go.run_endLoop
namespace Go.Lift
open Go Go.RowKit
def oN:Obj→Bool
 |.cells .. => true
 |_=>false
def cv[Mf]:Obj→Bool
 |.cells .. => false
 |.map .. => !Mf.on
 |_=>true
theorem yfb[Mf]{o:Obj}(h:oN o=true):cv o=false:=by cases o<;>first|rfl|cases h
theorem mP[Mf]{o:Obj}(hm:Mf.on=false)(h:oN o=false):cv o=true:=by
 cases o<;>first|rfl|(simp[cv,hm];done)|cases h
abbrev Mem:=Nat→Nat→Option Value
def Mem.le(M M':Mem):Prop:=∀b o v,M b o=some v→M' b o=some v
theorem Mem.le_refl(M:Mem):Mem.le M M:=fun _ _ _ h=>h
theorem Mem.le_trans{A B C:Mem}(h:Mem.le A B)(k:Mem.le B C):Mem.le A C:=fun b o v x=>k b o v (h b o v x)
theorem WL(w:World)(o:Obj)(i:Nat)(h:i<w.heap.size):(w.alloc o).heap[i]?=w.heap[i]?:=yB w o i h
def zb7(w w':World):Prop:=∀(j:Nat) (c:Array Value) (t:TypeId) (fr:Nat×Nat),w.heap[j]?=some (.cells c t fr)→∃c' fA,w'.heap[j]?=some (.cells c' t fA)∧c'.size=c.size
theorem zb7.refl(w:World):zb7 w w:=fun _ c _ fr h=>⟨c,fr,h,rfl⟩
def znh(M:Mem)(A B:World):Prop:=∀b o v,M b o=some v→A.cell? ⟨b,o,none⟩=some v→B.cell? ⟨b,o,none⟩=some v
theorem znh.trans{M:Mem}{A B C:World}(h:znh M A B)(k:znh M B C):znh M A C:=fun b o v x y=>k b o v x (h b o v x y)
theorem znh.anti{M M':Mem}(hM:Mem.le M M'){A B:World}(h:znh M' A B):znh M A B:=fun b o v x y=>h b o v (hM b o v x) y
def Yields(P:Program){X:Type}(enc:X→Value)(M:Mem)(xs:List X)(gf:Nat)(lb:Array Value):Prop:=
 (∀args w,(callFunc gf args).run P w = .ok (.enter gf args) w)∧
  ∀(F:Fence) (n:Nat) (w:World),F.depth=none→(∀f,F.fn f)→F.round=none→(∀b o v,M b o=some v→w.cell? ⟨b,o,none⟩=some v)→
   SeqStopsK F n P gf lb (fun x:{x:X // x∈xs} => #[enc x.1]) (znh M) (fun ys=>ys.map (·.1)=xs) (fun ys=>ys.map (·.1) <+: xs) xs.length w
theorem SeqStopsK.keeps{α:Type}{F:Fence}{n:Nat}{P:Program}{g:Nat}{lb:Array Value}{su:α→Array Value}{Kp Kp':World→World→Prop}{S Sp:List α→Prop}{N:Nat}{w:World}
  (h:SeqStopsK F n P g lb su Kp S Sp N w) (hk:∀A B,Kp' A B→Kp A B):SeqStopsK F n P g lb su Kp' S Sp N w:=
 fun l J Jx W hW hJ JT hY h0=>h l J Jx W hW hJ JT (fun pre x W1 hj hl=>YieldAt.mono (hY pre x W1 hj hl) fun e W' he=>he.imp (fun⟨a,b,c⟩=>⟨a,b,hk _ _ c⟩) id) h0
theorem Yields.mono{P:Program}{X:Type}{enc:X→Value}{M M':Mem}(hM:Mem.le M M'){xs:List X}{gf:Nat}{lb:Array Value}(h:Yields P enc M xs gf lb):Yields P enc M' xs gf lb:=
 ⟨h.1,fun F n w h1 h2 h3 h4=>SeqStopsK.keeps (h.2 F n w h1 h2 h3 fun b o v hv=>h4 b o v (hM b o v hv)) fun _ _ hk=>znh.anti hM hk⟩
structure lT (g:Nat) (W W':World):Prop where
 below:Below 0 W W'
 size:W'.heap.size=W.heap.size
 same:∀j,j≠g→W'.heap[j]?=W.heap[j]?
 own:∃s s' E,W.heap[g]?=some (.cells #[.string s] E (0,0))∧W'.heap[g]?=some (.cells #[.string s'] E (0,0))
def zwn(P:Program){X:Type}(enc:X→Value)(M:Mem)(gf:Nat)(lb:Array Value)(g:Nat)(Fs:js→Option (List X)):Prop:=
 (∀ args w,(callFunc gf args).run P w = .ok (.enter gf args) w)∧
  ∀ (s:js) (xs:List X),Fs s=some xs→∀(F:Fence) (n:Nat) (l:Nat) (J Jx:List X→World→Prop) (W:World) (E:TypeId),F.depth=none→(∀f,F.fn f)→F.alive=false→F.round=none→(∀b o v,M b o=some v→W.cell? ⟨b,o,none⟩=some v)→
   W.heap[g]?=some (.cells #[.string s] E (0,0))→(∀o,M g o=none)→AbidesFrom W.heap.size J→AbidesFrom W.heap.size Jx→(∀pre A B,J pre A→lT g A B→J pre B)→
   (∀pre x W1,J pre W1→pre++[x] <+: xs→YieldAt F (n-1) P l #[enc x] W1 fun e W'=>
    (e = .returned (.bool true)∧J (pre++[x]) W'∧znh M W1 W'∧W'.heap[g]?=W1.heap[g]?)∨(e = .returned (.bool false)∧Jx (pre++[x]) W'))→
   J [] W→CallsIn F n P gf (#[.func (.yield l) #[] #[]]++lb) W fun e W'=>(∃v,e = .returned v)∧(J xs W'∨∃pre,pre <+: xs∧Jx pre W')
theorem zwn.mono{P:Program}{X:Type}{enc:X→Value}{M M':Mem}(hM:Mem.le M M'){gf:Nat}{lb:Array Value}{g:Nat}{Fs:js→Option (List X)}(h:zwn P enc M gf lb g Fs):zwn P enc M' gf lb g Fs:=
 ⟨h.1,fun s xs hs F n l J Jx W E h1 h2 ha h3 h4 h5 h6 h7 h8 h9 hY h0=>h.2 s xs hs F n l J Jx W E h1 h2 ha h3 (fun b o v hv=>h4 b o v (hM b o v hv)) h5 (fun o=>by
  cases hc:M g o with
  |none=>rfl
  |some v=>have:=hM g o v hc;rw[h6]at this;cases this) h7 h8 h9
  (fun pre x W1 hj hp=>YieldAt.mono (hY pre x W1 hj hp) fun e W' he=>he.imp (fun⟨a,b,c,d⟩=>⟨a,b,znh.anti hM c,d⟩) id) h0⟩
class wB where
 T:Mem→World→Prop
 keep:∀{M M':Mem} {w w':World},Mem.le M M'→zb7 w w'→T M w→T M' w'
variable [wB]
def Good(M:Mem)(w:World):Prop:=wB.T M w∧∀b o v,M b o=some v→w.cell? ⟨b,o,none⟩=some v
def Mem.has(M:Mem)(b off:Nat)(cells:List Value):Prop:=∀j u,cells[j]?=some u→M b (off+j)=some u
structure vm (M:Mem) (w:World) (M':Mem) (w':World):Prop where
 below:Below w.heap.size w w'
 mem:∀b,b<w.heap.size→M' b=M b
def CK(P:Program)(g:FuncId)(args:Array Value)(M:Mem)(w:World)(R:Mem→Value→Prop):Prop:=
 Calls P g args w fun e w'=>∃M' v,e = .returned v∧R M' v∧Good M' w'∧vm M w M' w'
def Enters(P : Program)(f : FuncId) : Prop := ∃ fn, P.funcs[f]? = some fn ∧ fn.body.isNone = false ∧ (fn.name == "runtime.NumGoroutine") = false
def Qd(agg:Bool)(R:List Value→Prop)(v:Value):Prop:=
 if agg then ∃cs:Array Value,v = .agg cs∧R cs.toList else R [v]
def EU{β:Type}(J:β→Mem→World→Prop):Prop:=∀s N W N' W',J s N W→Good N' W'→vm N W N' W'→J s N' W'
def y17(P:Program){X:Type}(R:Mem→X→Value→Prop)(M:Mem)(xs:List X)(gf:Nat)(lb:Array Value):Prop:=
 (∀ args w,(callFunc gf args).run P w = .ok (.enter gf args) w)∧
  ∀ (F:Fence) (n l:Nat) (J Jx:List X→Mem→World→Prop) (M0:Mem) (W:World),Mem.le M M0→F.depth=none→(∀f,F.fn f)→F.alive=false→F.round=none→
   (∀pre N W,J pre N W→Good N W)→(∀pre N W,Jx pre N W→Good N W)→EU J→EU Jx→
   (∀pre x N W1 v,J pre N W1→pre++[x] <+: xs→R N x v→YieldAt F (n-1) P l #[v] W1 fun e W'=>
    ∃N',Mem.le N N'∧((e = .returned (.bool true)∧J (pre++[x]) N' W')∨(e = .returned (.bool false)∧Jx (pre++[x]) N' W')))→
   J [] M0 W→CallsIn F n P gf (#[.func (.yield l) #[] #[]]++lb) W fun e W'=>(∃v,e = .returned v)∧∃N',Mem.le M0 N'∧(J xs N' W'∨∃pre,pre <+: xs∧Jx pre N' W')
theorem y17.mono{P:Program}{X:Type}{R:Mem→X→Value→Prop}{M M':Mem}(hM:Mem.le M M'){xs:List X}{gf:Nat}{lb:Array Value}(h:y17 P R M xs gf lb):y17 P R M' xs gf lb:=
 ⟨h.1,fun F n l J Jx M0 W h1=>h.2 F n l J Jx M0 W (Mem.le_trans hM h1)⟩
def jB(P:Program):(t:Ty)→Mem→t.den→List Value→Prop
 |.int k,_,x,cs=>cs=[.int k x]
 |.bool,_,x,cs=>cs=[.bool x]
 |.str,_,x,cs=>cs=[.string x]
 |.unit,_,_,cs=>cs=[]
 |.err,_,x,cs=>∃v,cs=[v]∧(x=true→v = .nilIface)∧(x=false→∃t u,v = .iface t u)
 |.one t,M,x,cs=>jB P t M x cs
 |.pair a b,M,x,cs=>jB P a M x.1 (cs.take a.size)∧jB P b M x.2 (cs.drop a.size)
 |.arr n e,M,x,cs=>cs.length=n*e.size∧∀i,i<n→jB P e M (x i) ((cs.drop (i*e.size)).take e.size)
 | .slice e,M,x,cs=>∃v,cs=[v]∧((v = .slice none 0 0∧x=[])∨
  (∃b off cap cells,v = .slice (some ⟨b,off,none⟩) x.length cap∧x.length≤cap∧cells.length=x.length*e.size∧M.has b off cells∧
   (∀i (h:i<x.length),jB P e M x[i] ((cells.drop (i*e.size)).take e.size)))∨∃a cap,v = .slice (some a) 0 cap∧x=[])
 |.ptr t,M,x,cs=>∃b off cells,cs=[.pointer (some ⟨b,off,none⟩)]∧jB P t M x cells∧M.has b off cells
 | .fn a r,M,φ,cs=>∃g first cap,cs=[.func (.func g) first cap]∧Enters P g∧
  ∀M' w x y u,Mem.le M M'→Good M' w→φ x=some y→Qd a.agg (jB P a M' x) u→
   CK P g (first ++ #[u]++cap) M' w fun M'' v=>Qd r.agg (jB P r M'' y) v
 |.seq e,M,xs,cs=>∃gf lb,cs=[.func (.func gf) #[] lb]∧y17 P (fun M' x v=>Qd e.agg (jB P e M' x) v) M xs gf lb
 |.mapT _ _,_,_,_=>False
def jz(P:Program)(t:Ty)(M:Mem)(x:t.den)(v:Value):Prop:=Qd t.agg (jB P t M x) v
variable {P:Program}
theorem Qp:∀(t:Ty) (M:Mem) (x:t.den) (cs:List Value),jB P t M x cs→cs.length=t.size
 |.int _,_,_,_,h=>by rw[jB]at h;rw[h];rfl
 |.bool,_,_,_,h=>by rw[jB]at h;rw[h];rfl
 |.str,_,_,_,h=>by rw[jB]at h;rw[h];rfl
 |.unit,_,_,_,h=>by rw[jB]at h;rw[h];rfl
 |.err,_,_,_,h=>by obtain⟨v,h,_⟩:=h;rw[h];rfl
 |.one t,M,x,cs,h=>Qp t M x cs h
 |.pair a b,M,x,cs,h=>by
  have h1:=Qp a M x.1 _ h.1;have h2:=Qp b M x.2 _ h.2;simp only[zE,zT]at h1 h2;simp only[Ty.size];omega
 |.arr _ _,_,_,_,h=>h.1
 |.slice _,_,_,_,h=>by obtain⟨v,h,_⟩:=h;rw[h];rfl
 |.ptr _,_,_,_,h=>by obtain⟨_,_,_,h,_⟩:=h;rw[h];rfl
 |.fn _ _,_,_,_,h=>by obtain⟨_,_,_,h,_⟩:=h;rw[h];rfl
 |.seq _,_,_,_,h=>by obtain⟨_,_,h,_⟩:=h;rw[h];rfl
 |.mapT _ _,_,_,_,h=>h.elim
theorem Mem.has.mono{M M':Mem}(hM:Mem.le M M'){b off:Nat}{cells:List Value}(h:M.has b off cells):M'.has b off cells:=
 fun j u hj=>hM _ _ _ (h j u hj)
theorem J8:∀(t:Ty) {M M':Mem} (_:Mem.le M M') (x:t.den) (cs:List Value),jB P t M x cs→jB P t M' x cs
 |.int _,_,_,_,_,_,h=>h
 |.bool,_,_,_,_,_,h=>h
 |.str,_,_,_,_,_,h=>h
 |.unit,_,_,_,_,_,h=>h
 |.err,_,_,_,_,_,h=>h
 |.one t,_,_,hM,x,cs,h=>J8 t hM x cs h
 |.pair a b,_,_,hM,x,_,h=>⟨J8 a hM x.1 _ h.1,J8 b hM x.2 _ h.2⟩
 |.arr _ e,_,_,hM,x,_,h=>⟨h.1,fun i hi=>J8 e hM (x i) _ (h.2 i hi)⟩
 |.slice e,_,_,hM,x,_,h=>by
  obtain⟨v,hv,h⟩:=h;refine⟨v,hv,h.imp id (Or.imp ?_ id)⟩;rintro⟨b,off,cap,cells,h1,h2,h3,h4,h5⟩;exact⟨b,off,cap,cells,h1,h2,h3,h4.mono hM,fun i hi=>J8 e hM _ _ (h5 i hi)⟩
 |.ptr t,_,_,hM,x,_,h=>by
  obtain⟨b,off,cells,h1,h2,h3⟩:=h;exact⟨b,off,cells,h1,J8 t hM x _ h2,h3.mono hM⟩
 |.fn _ _,_,_,hM,_,_,h=>by
  obtain⟨g,first,cap,h1,h0,h2⟩:=h;exact⟨g,first,cap,h1,h0,fun M' w x y u jL=>h2 M' w x y u (Mem.le_trans hM jL)⟩
 |.seq _,_,_,hM,_,_,h=>by
  obtain⟨gf,lb,h1,h2⟩:=h;exact⟨gf,lb,h1,h2.mono hM⟩
 |.mapT _ _,_,_,_,_,_,h=>h.elim
theorem ZZ{t:Ty}{M M':Mem}(hM:Mem.le M M'){x:t.den}{v:Value}(h:jz P t M x v):jz P t M' x v:=by
 unfold jz Qd at*;by_cases ha:t.agg=true
 ·rw[qH ha]at*;obtain⟨cs,h1,h2⟩:=h;exact⟨cs,h1,J8 t hM x _ h2⟩
 ·rw[qT ha]at*;exact J8 t hM x _ h
theorem U6:∀(t:Ty) (M:Mem) (x:t.den) (v:Value),t.agg=false→jB P t M x [v]→∀cs,v ≠ .agg cs
 |.int _,_,_,_,_,h=>by rw[jB]at h;injection h with h;subst h;intro cs hc;cases hc
 |.bool,_,_,_,_,h=>by rw[jB]at h;injection h with h;subst h;intro cs hc;cases hc
 |.str,_,_,_,_,h=>by rw[jB]at h;injection h with h;subst h;intro cs hc;cases hc
 |.unit,_,_,_,ha,_=>by cases ha
 |.err,_,x,_,_,h=>by
  obtain⟨v,h,h1,h2⟩:=h;injection h with h;subst h;intro cs hc
  cases x with
  |true=>rw[h1 rfl]at hc;cases hc
  |false=>obtain⟨t,u,h2⟩:=h2 rfl;rw[h2]at hc;cases hc
 |.one _,_,_,_,ha,_=>by cases ha
 |.pair _ _,_,_,_,ha,_=>by cases ha
 |.arr _ _,_,_,_,ha,_=>by cases ha
 |.slice _,_,_,_,_,h=>by
  obtain⟨v,h,h'⟩:=h;injection h with h;subst h;intro cs hc
  rcases h' with⟨h',_⟩|⟨_,_,_,_,h',_⟩|⟨_,_,h',_⟩<;>rw[h']at hc<;>cases hc
 |.ptr _,_,_,_,_,h=>by obtain⟨_,_,_,h,_⟩:=h;injection h with h;subst h;intro cs hc;cases hc
 |.fn _ _,_,_,_,_,h=>by obtain⟨_,_,_,h,_⟩:=h;injection h with h;subst h;intro cs hc;cases hc
 |.seq _,_,_,_,_,h=>by obtain⟨_,_,h,_⟩:=h;injection h with h;subst h;intro cs hc;cases hc
 |.mapT _ _,_,_,_,_,h=>h.elim
theorem HP{t:Ty}{M:Mem}{x:t.den}{v:Value}(h:jz P t M x v):jB P t M x v.cells.toList:=by
 unfold jz Qd at h;split at h
 ·obtain⟨cs,rfl,h⟩:=h;exact h
 ·rename_i ha;have hs:=U6 t M x v (by simpa using ha) h;cases v<;>first|exact h|exact absurd rfl (hs _)
theorem y8h{t:Ty}{M:Mem}{x:t.den}{v:Value}(h:jz P t M x v):v.cells.size=t.size:=by
 have:=Qp t M x _ (HP h);simpa using this
def KY(t:Ty)(cs:List Value):Value:=if t.agg then .agg cs.toArray else cs.headD undef
theorem GQ{t:Ty}{M:Mem}{x:t.den}{cs:List Value}(h:jB P t M x cs):jz P t M x (KY t cs):=by
 unfold jz Qd KY;by_cases ha:t.agg=true
 ·simp only[ha,yp];exact⟨_,rfl,by simpa using h⟩
 ·have hl:=Qp t M x cs h;have:t.size=1:=by cases t<;>simp_all [Ty.agg,Ty.size]
  rw[this]at hl;match cs,hl with
  |[c],_=>simpa [ha]using h
theorem y0u{v:Value}(h:∀cs,v ≠ .agg cs):v.cells=#[v]:=by
 cases v<;>first|rfl|exact absurd rfl (h _)
theorem zp6{t:Ty}{M:Mem}{x:t.den}{cs:List Value}(h:jB P t M x cs):(KY t cs).cells.toList=cs:=by
 unfold KY;by_cases ha:t.agg=true
 ·simp[ha,Value.cells]
 ·have hl:=Qp t M x cs h;have:t.size=1:=by cases t<;>simp_all [Ty.agg,Ty.size]
  rw[this]at hl;match cs,hl with
  |[c],_=>
   have NS:=U6 t M x c (by simpa using ha) h;rw[qT ha];simp[y0u NS]
theorem Rn{t:Ty}{M:Mem}{x:t.den}{v:Value}(h:jz P t M x v):KY t v.cells.toList=v:=by
 unfold jz Qd at h;unfold KY;split at h
 ·rename_i ha;obtain⟨cs,rfl,_⟩:=h;simp[ha,Value.cells]
 ·rename_i ha;have hs:=U6 t M x v (by simpa using ha) h;simp only[ha];cases v<;>first|rfl|exact absurd rfl (hs _)
def Kh(P:Program)(M:Mem):(ts:List Ty)→vx ts→List Value→Prop
 |[],_,vs=>vs=[]
 |[t],x,vs=>∃v,vs=[v]∧jz P t M x v
 |t::u::r,x,vs=>∃v rest,vs=v::rest∧jz P t M x.1 v∧Kh P M (u::r) x.2 rest
theorem tU{M M':Mem}(hM:Mem.le M M'):∀(ts:List Ty) (x:vx ts) (vs:List Value),Kh P M ts x vs→Kh P M' ts x vs
 |[],_,_,h=>h
 |[_],_,_,⟨v,h,h'⟩=>⟨v,h,ZZ hM h'⟩
 |_::u::r,x,_,⟨v,rest,h,h1,h2⟩=>⟨v,rest,h,ZZ hM h1,tU hM (u::r) x.2 rest h2⟩
def VC(P:Program)(M:Mem)(ts:List Ty)(x:vx ts)(v:Value):Prop:=
 match ts,x with
 |[t],x=>jz P t M x v
 |ts,x=>∃vs:Array Value,v = .tuple vs∧Kh P M ts x vs.toList
def FC(P:Program)(s:Sig):Prop:=
 ∀x r,s.run x=some r→∀M w vs,Good M w→Kh P M s.ats x vs→CK P s.f vs.toArray M w fun M' v=>VC P M' s.rts r v
end Go.Lift
namespace Go.Lift
open Go Go.RowKit
variable [wB] [Mf]
def jN:Ty→wm→Option Nat
 |_,[]=>some 0
 |.one t,.one::p=>jN t p
 |.pair a _,.fst::p=>jN a p
 |.pair a b,.snd::p=>(jN b p).map (a.size + ·)
 |.arr n e,.idx i::p=>if 0≤i∧i<(n:Int)then(jN e p).map (i.toNat*e.size + ·)else none
 |_,_=>none
def vo(rows:Bool)(t:Ty)(x:t.den)(p:wm):Option Nat:=
 match rows,t,x,p with
 |false,t,_,p=>jN t p
 |true,.slice e,l,.el i::p=>if 0≤i∧i<(l.length:Int)then(jN e p).map (i.toNat*e.size + ·)else none
 |_,_,_,_=>none
variable {P:Program}
def KG(P:Program)(e:Ty)(M:Mem)(l:List e.den)(cs:List Value):Prop:=
 cs.length=l.length*e.size∧∀i (h:i<l.length),jB P e M l[i] ((cs.drop (i*e.size)).take e.size)
def s9(P:Program)(e:Ty)(M:Mem)(l:List e.den)(cs:List Value):Prop:=
 l.length*e.size≤cs.length∧∀i (h:i<l.length),jB P e M l[i] ((cs.drop (i*e.size)).take e.size)
def EI(P:Program)(rows:Bool)(t:Ty)(M:Mem)(x:t.den)(cs:List Value):Prop:=
 match rows,t,x with
 |false,t,x=>jB P t M x cs
 |true,.slice e,l=>s9 P e M l cs
 |true,_,_=>False
theorem y1t{e:Ty}{M:Mem}{l:List e.den}{cs:List Value}(h:KG P e M l cs):s9 P e M l cs:=⟨Nat.le_of_eq h.1.symm,h.2⟩
theorem zx2{e:Ty}{M:Mem}{l:List e.den}{cs:List Value}(h:s9 P e M l cs):KG P e M l (cs.take (l.length*e.size)):=by
 refine⟨by rw[zE];have:=h.1;omega,fun i hi =>?_⟩;have jL:(i+1)*e.size≤l.length*e.size:=q9 _ hi;simp only[zC,zZ]at jL;rw[ke,xQ,Nat.min_eq_left (by omega)];exact h.2 i hi
def zpd(M:Mem)(w:World)(size g n cap:Nat):Prop:=
 ∃jT E,w.heap[g]?=some (.cells jT E (0,0))∧jT.size=cap*size∧n≤cap∧cap≤maxLen∧∀o,n*size≤o→M g o=none
def OwnV(κ:Nat→Option Nat)(M:Mem)(w:World)(tk:Nat→Bool)(size:Nat)(s:Option Nat)(v:Value):Prop:=
 match s with
 |none=>v = .slice none 0 0
 |some k=>tk k=true∧(v = .slice none 0 0∨∃g n cap,κ k=some g∧v = .slice (some ⟨g,0,none⟩) n cap∧zpd M w size g n cap)
def z93(κ:Nat→Option Nat)(M:Mem)(w:World)(tk:Nat→Bool)(t:Ty)(cs:List Value)(own:Own):Prop:=
 ∀p s,(p,s)∈own→∃off e v,jN t p=some off∧t.atP p=some (.slice e)∧cs[off]?=some v∧OwnV κ M w tk e.size s v
def y5h(P:Program)(κ:Nat→Option Nat)(M:Mem)(bo:Nat→Option Box)(c:EF)(v:Value):Prop:=
 match c with
 |.inl b=>∃B g,bo b=some B∧B.rows=false∧κ b=some g∧v = .pointer (some ⟨g,0,none⟩)
 |.inr d=>jz P (.ptr d.1) M d.2 v
def zf9(P:Program)(κ:Nat→Option Nat)(M:Mem)(bo:Nat→Option Box):List EF→List Value→Prop
 |[],vs=>vs=[]
 |c::r,vs=>∃v rest,vs=v::rest∧y5h P κ M bo c v∧zf9 P κ M bo r rest
def RelA(P:Program)(κ:Nat→Option Nat)(M:Mem)(w:World)(bo:Nat→Option Box)(tk:Nat→Bool)(v:AVal)(u:Value):Prop:=
 match v with
 |.data t x own=>jz P t M x u∧z93 κ M w tk t u.cells.toList own
 |.bptr b p=>∃B g off,bo b=some B∧κ b=some g∧vo B.rows B.t B.x p=some off∧u = .pointer (some ⟨g,off,none⟩)
 |.rowp b=>∃tid e l own g cap,bo b=some ⟨tid,.slice e,l,own,true⟩∧κ b=some g∧l.length≤cap∧u = .slice (some ⟨g,0,none⟩) l.length cap
 |.tup ts x=>∃vs:Array Value,u = .tuple vs∧Kh P M ts x vs.toList
 |.clo g caps=>∃vs:Array Value,u = .func (.func g) #[] vs∧zf9 P κ M bo caps vs.toList
 |.undef=>u=Go.undef
 |.raw v=>u=v
 |.mapp b=>∃tid k v l own g,bo b=some ⟨tid,.mapT k v,l,own,true⟩∧κ b=some g∧u = .map (some g)
 |.iter b e F=>∃tid s own g gf lb,bo b=some ⟨tid,.str,s,own,false⟩∧κ b=some g∧u = .func (.func gf) #[] lb∧zwn P (encS e) M gf lb g F
def XB(k v:Ty)(l:List (k.den×v.den))(es:Array MapEntry):Prop:=es.toList.map (fun e=>(e.key,e.val))=l.map fun p=>(encS k p.1,encS v p.2)
def RelB(P:Program)(κ:Nat→Option Nat)(M:Mem)(w:World)(tk:Nat→Bool)(b:Nat)(B:Box):Prop:=
 ∃g,κ b=some g∧(∀o,M g o=none)∧((∃jT E,w.heap[g]?=some (.cells jT E (0,0))∧EI P B.rows B.t M B.x jT.toList∧z93 κ M w tk B.t jT.toList B.own)∨
  ∃tid k v l es clock,B=⟨tid,.mapT k v,l,[],true⟩∧w.heap[g]?=some (.map es clock)∧XB k v l es∧Mf.on=true)
def Box.flat(B:Box):Prop:=∀tid k v l own,B≠⟨tid,.mapT k v,l,own,true⟩
theorem RelB.cells{P:Program}{κ:Nat→Option Nat}{M:Mem}{w:World}{tk:Nat→Bool}{b:Nat}{B:Box}(h:RelB P κ M w tk b B)(hf:B.flat):
  ∃g jT E,κ b=some g∧w.heap[g]?=some (.cells jT E (0,0))∧EI P B.rows B.t M B.x jT.toList∧z93 κ M w tk B.t jT.toList B.own∧∀o,M g o=none:=by
 obtain⟨g,h1,h2,⟨jT,E,h3,h4,h5⟩|⟨tid,k,v,l,es,c,h3,_⟩⟩:=h
 ·exact⟨g,jT,E,h1,h3,h4,h5,h2⟩
 ·exact absurd h3 (hf tid k v l [])
theorem RelB.mk{P:Program}{κ:Nat→Option Nat}{M:Mem}{w:World}{tk:Nat→Bool}{b:Nat}{B:Box}{g:Nat}{jT:Array Value}{E:TypeId}(h1:κ b=some g)(h2:w.heap[g]?=some (.cells jT E (0,0)))(h3:EI P B.rows B.t M B.x jT.toList)
 (h4:z93 κ M w tk B.t jT.toList B.own) (h5:∀o,M g o=none):RelB P κ M w tk b B:=⟨g,h1,h5,.inl ⟨jT,E,h2,h3,h4⟩⟩
theorem ya9{B:Box}(h:B.isMap=false):B.flat:=fun tid k v l own e=>by
 subst e;cases h
theorem TB{B:Box}{p:wm}{off:Nat}(h:vo B.rows B.t B.x p=some off):B.flat:=fun tid k v l own e=>by
 subst e;cases p<;>cases h
structure jW (P:Program) (base:Nat) (κ:Nat→Option Nat) (M:Mem) (σ:St) (a:Act) (w:World):Prop where
 env:∀s v,σ.env s=some v→RelA P κ M w σ.box σ.tok v (a.tmps.getD s undef)
 bx:∀b B,σ.box b=some B→RelB P κ M w σ.tok b B
 good:Good M w
 inj:∀i j g,κ i=some g→κ j=some g→i=j
 kap:∀i g,κ i=some g→base≤g∧g<w.heap.size
 dis:∀i B,σ.box i=some B→σ.tok i=false
 low:base≤w.heap.size
def Holds(κ:Nat→Option Nat)(M:Mem)(w:World)(κ':Nat→Option Nat)(M':Mem)(w':World)(i:Nat):Prop:=
 κ' i=κ i∧∀g,κ i=some g→w'.heap[g]?=w.heap[g]?∧∀o,M' g o=M g o
section keep
variable {κ κ':Nat→Option Nat} {M M':Mem} {w w':World} {tk Vy:Nat→Bool} {bo Gv:Nat→Option Box}
theorem zpd.keep{size g n cap:Nat}(h:zpd M w size g n cap)(h1:w'.heap[g]?=w.heap[g]?)(h2:∀o,M' g o=M g o):zpd M' w' size g n cap:=by
 obtain⟨jT,E,a,b,c,d,e⟩:=h;exact⟨jT,E,h1.trans a,b,c,d,fun o ho=>(h2 o).trans (e o ho)⟩
theorem OwnV.turn{size:Nat}{s:Option Nat}{v:Value}(h:OwnV κ M w tk size s v)
  (hs:∀k,s=some k→tk k=true→Vy k=true∧Holds κ M w κ' M' w' k):OwnV κ' M' w' Vy size s v:=by
 cases s with
 |none=>exact h
 |some k=>
  obtain⟨h0,h⟩:=h;obtain⟨ht,hk,hp⟩:=hs k rfl h0;refine⟨ht,h.imp id ?_⟩;rintro⟨g,n,cap,h1,h2,h3⟩;obtain⟨e1,e2⟩:=hp g h1;exact⟨g,n,cap,hk.trans h1,h2,h3.keep e1 e2⟩
theorem z93.turn{t:Ty}{cs:List Value}{own wu:Own}(h:z93 κ M w tk t cs own)
  (hs:∀p s,(p,s)∈wu→(p,s)∈own∧∀k,s=some k→tk k=true→Vy k=true∧Holds κ M w κ' M' w' k):z93 κ' M' w' Vy t cs wu:=by
 intro p s hm;obtain⟨hm',wb⟩:=hs p s hm;obtain⟨off,e,v,a,b,c,d⟩:=h p s hm';exact⟨off,e,v,a,b,c,d.turn wb⟩
theorem y5h.turn(jL:Mem.le M M'){c:EF}{v:Value}(h:y5h P κ M bo c v)
  (hb:∀b,c = .inl b→κ' b=κ b∧∀B,bo b=some B→∃B',Gv b=some B'∧B'.rows=B.rows):y5h P κ' M' Gv c v:=by
 cases c with
 |inl b=>
  obtain⟨B,g,h1,h2,h3,h4⟩:=h;obtain⟨hc,h'⟩:=hb b rfl;obtain⟨B',h5,h6⟩:=h' B h1;exact⟨B',g,h5,h6.trans h2,hc.trans h3,h4⟩
 |inr d=>exact ZZ (t :=.ptr d.1) jL h
theorem zf9.turn(jL:Mem.le M M'):∀{cs:List EF} {vs:List Value},zf9 P κ M bo cs vs→
  (∀b,.inl b∈cs→κ' b=κ b∧∀B,bo b=some B→∃B',Gv b=some B'∧B'.rows=B.rows)→zf9 P κ' M' Gv cs vs
 |[],_,h,_=>h
 |_::_,_,⟨v,rest,h1,h2,h3⟩,hb=>⟨v,rest,h1,h2.turn jL (fun b hbc=>hb b (by subst hbc;simp)),zf9.turn jL h3 fun b hm=>hb b (qo _ hm)⟩
def AVal.leans(v:AVal)(i:Nat):Prop:=
 match v with
 |.data _ _ own=>∃p,(p,some i)∈own
 |.bptr b _=>i=b
 |.rowp b=>i=b
 |.tup .. => False
 |.undef=>False
 |.raw _=>False
 |.clo _ caps =>.inl i∈caps
 |.mapp b=>i=b
 |.iter b _ _=>i=b
def Alike(B B':Box):Prop:=∃x' wu,B'=⟨B.tid,B.t,x',wu,B.rows⟩∧∀p,vo B.rows B.t x' p=vo B.rows B.t B.x p
theorem Alike.refl(B:Box):Alike B B:=⟨B.x,B.own,rfl,fun _=>rfl⟩
theorem iw{e:Ty}{l l':List e.den}(h:∀p,vo true (.slice e) l' p=vo true (.slice e) l p):l'.length=l.length:=by
 have key:∀(l l':List e.den),(∀p,vo true (.slice e) l' p=vo true (.slice e) l p)→¬l'.length<l.length:=by
  intro l l' h hlt;have:=h [.el (l'.length:Int)];simp only[vo]at this;rw[qT (by omega),qH (by omega)]at this;simp[jN]at this
 have h1:=key l l' h;have h2:=key l' l (fun p=>(h p).symm);omega
theorem RelA.turn(jL:Mem.le M M'){v:AVal}{u:Value}(h:RelA P κ M w bo tk v u)
  (hk:∀i,v.leans i→κ' i=κ i)
  (ht:∀i,v.leans i→tk i=true→Vy i=true∧Holds κ M w κ' M' w' i)
  (hb:∀i B,v.leans i→bo i=some B→∃B',Gv i=some B'∧Alike B B'):
  RelA P κ' M' w' Gv Vy v u:=by
 cases v with
 |data t x own=>
  refine⟨ZZ jL h.1,h.2.turn fun p s hm=>⟨hm,fun k wb =>?_⟩⟩;subst wb;exact ht k ⟨p,hm⟩
 |bptr b p=>
  obtain⟨B,g,off,h1,h2,h3,h4⟩:=h;obtain⟨B',h5,x',wu,rfl,h6⟩:=hb b B rfl h1;exact⟨_,g,off,h5,(hk b rfl).trans h2,(h6 p).trans h3,h4⟩
 |rowp b=>
  obtain⟨tid,e,l,own,g,cap,h1,h2,h0,h3⟩:=h;obtain⟨B',h5,x',wu,rfl,h6⟩:=hb b _ rfl h1;exact⟨tid,e,x',wu,g,cap,h5,(hk b rfl).trans h2,by rw[iw h6];exact h0,by rw[iw h6];exact h3⟩
 |tup ts x=>obtain⟨vs,h1,h2⟩:=h;exact⟨vs,h1,tU jL _ _ _ h2⟩
 |mapp b=>
  obtain⟨tid,k,v,l,own,g,h1,h2,h3⟩:=h;obtain⟨B',h5,x',wu,rfl,h6⟩:=hb b _ rfl h1;exact⟨tid,k,v,x',wu,g,h5,(hk b rfl).trans h2,h3⟩
 |undef=>exact h
 |raw _=>exact h
 |iter b e F=>
  obtain⟨tid,s,own,g,gf,lb,h1,h2,h3,h4⟩:=h;obtain⟨B',h5,x',wu,rfl,h6⟩:=hb b _ rfl h1;exact⟨tid,x',wu,g,gf,lb,h5,(hk b rfl).trans h2,h3,h4.mono jL⟩
 |clo g caps=>
  obtain⟨vs,h1,h2⟩:=h;refine⟨vs,h1,h2.turn jL fun b hbm=>⟨hk b hbm,fun B hB =>?_⟩⟩;obtain⟨B',h5,x',wu,rfl,h6⟩:=hb b B hbm hB;exact⟨_,h5,rfl⟩
theorem UR{M M':Mem}(jL:Mem.le M M'){rows:Bool}{t:Ty}{x:t.den}{cs:List Value}(h:EI P rows t M x cs):EI P rows t M' x cs:=by
 cases rows with
 |false=>
  have h':jB P t M x cs:=by cases t<;>exact h
  have:=J8 t jL x cs h';cases t<;>exact this
 |true=>
  cases t with
  |slice e=>exact⟨h.1,fun i hi=>J8 e jL _ _ (h.2 i hi)⟩
  |_=>exact h
theorem RelB.turn(jL:Mem.le M M'){b:Nat}{B:Box}(h:RelB P κ M w tk b B)(hh:Holds κ M w κ' M' w' b)
  (ht:∀p k,(p,some k)∈B.own→tk k=true→Vy k=true∧Holds κ M w κ' M' w' k):RelB P κ' M' w' Vy b B:=by
 obtain⟨g,h1,h5,h⟩:=h;obtain⟨e1,e2⟩:=hh;obtain⟨e3,e4⟩:=e2 g h1;refine⟨g,e1.trans h1,fun o=>(e4 o).trans (h5 o),?_⟩;rcases h with⟨jT,E,h2,h3,h4⟩|⟨tid,k,v,l,es,c,h2,h3,h4⟩
 ·exact .inl ⟨jT,E,e3.trans h2,UR jL h3,h4.turn fun p s hm=>⟨hm,fun k hk=>by subst hk;exact ht p k hm⟩⟩
 ·exact .inr ⟨tid,k,v,l,es,c,h2,e3.trans h3,h4⟩
end keep
theorem Am{M:Mem}{u:Ty}:∀(p:wm) (t:Ty) (x:t.den) (y:u.den) (off:Nat) (cs:List Value),Qv t x p u=some y→jN t p=some off→jB P t M x cs→
  jB P u M y ((cs.drop off).take u.size)∧off+u.size≤cs.length
 | [],t,x,y,off,cs,hg,ho,h=>by
  have hl:=Qp t M x cs h;simp only[jN,qb]at ho;subst ho;unfold Qv Z8 at hg;split at hg
  ·rename_i e;subst e;simp only[qb]at hg;subst hg;simp only[yz,qY];rw[zF (by omega)];exact⟨h,by omega⟩
  ·cases hg
 |.one::p,t,x,y,off,cs,hg,ho,h=>by
  cases t<;>simp only[jN,reduceCtorEq]at ho
  rename_i t;exact Am p t x y off cs hg ho h
 |.fst::p,t,x,y,off,cs,hg,ho,h=>by
  cases t<;>simp only[jN,reduceCtorEq]at ho
  rename_i a b;obtain⟨h1,h2⟩:=Am p a x.1 y off _ hg ho h.1;simp only[zE]at h2;refine⟨?_,by omega⟩;rw[ke,xQ]at h1;rwa [show min u.size (a.size-off)=u.size from by omega]at h1
 |.snd::p,t,x,y,off,cs,hg,ho,h=>by
  cases t<;>simp only[jN,reduceCtorEq]at ho
  rename_i a b;obtain⟨o',wQ,rfl⟩:=qB.1 ho;obtain⟨h1,h2⟩:=Am p b x.2 y o' _ hg wQ h.2;have hl:=Qp a M x.1 _ h.1;simp only[zT,zE]at h2 hl;rw[xk]at h1;exact⟨h1,by omega⟩
 | .idx i::p,t,x,y,off,cs,hg,ho,h=>by
  cases t<;>simp only[jN,reduceCtorEq]at ho
  rename_i n e;split at ho
  ·rename_i hi;obtain⟨o',wQ,rfl⟩:=qB.1 ho;have wy:i.toNat<n:=by omega
   obtain⟨h1,h2⟩:=Am p e (Gw x i) y o' _ hg wQ (h.2 i.toNat wy);have jL:(i.toNat+1)*e.size≤n*e.size:=q9 _ wy;have hl:=h.1;simp only[zE,zT,zC,zZ]at h2 jL;refine⟨?_,by omega⟩;rw[ke,xQ,xk]at h1;rwa [show min u.size (e.size-o')=u.size from by omega]at h1
  ·cases ho
 |.el _::_,t,_,_,_,_,_,ho,_=>by cases t<;>simp only[jN,reduceCtorEq]at ho
theorem Fv{u:Ty}:∀(p:wm) (t:Ty) (off:Nat),t.atP p=some u→jN t p=some off→off+u.size≤t.size
 |[],t,off,ha,ho=>by
  simp only[jN,qb]at ho;simp only[Ty.atP,qb]at ha;subst ha ho;omega
 |.one::p,t,off,ha,ho=>by
  cases t<;>simp only[jN,reduceCtorEq]at ho
  rename_i t;exact Fv p t off ha ho
 |.fst::p,t,off,ha,ho=>by
  cases t<;>simp only[jN,reduceCtorEq]at ho
  have:=Fv p _ off ha ho;simp only[Ty.size];omega
 |.snd::p,t,off,ha,ho=>by
  cases t<;>simp only[jN,reduceCtorEq]at ho
  obtain⟨o',wQ,rfl⟩:=qB.1 ho;have:=Fv p _ o' ha wQ;simp only[Ty.size];omega
 | .idx i::p,t,off,ha,ho=>by
  cases t<;>simp only[jN,reduceCtorEq]at ho
  rename_i n e;split at ho
  ·obtain⟨o',wQ,rfl⟩:=qB.1 ho;have:=Fv p e o' ha wQ;have jL:(i.toNat+1)*e.size≤n*e.size:=q9 _ (by omega);simp only[Ty.size,zC,zZ]at jL⊢;omega
  ·cases ho
 |.el _::_,t,_,_,ho=>by cases t<;>simp only[jN,reduceCtorEq]at ho
theorem EM{u:Ty}:∀(p:wm) (t:Ty) (x x':t.den) (y:u.den),QH t x p u y=some x'→t.atP p=some u
 |[],t,x,x',y,h=>by
  unfold QH Z8 at h;split at h
  ·rename_i e;subst e;simp[Ty.atP]
  ·cases h
 |.one::p,t,x,x',y,h=>by
  cases t<;>simp only[QH,reduceCtorEq]at h
  exact EM p _ x x' y h
 |.fst::p,t,x,x',y,h=>by
  cases t<;>simp only[QH,reduceCtorEq]at h
  split at h
  ·rename_i v hv;exact EM p _ _ v y hv
  ·cases h
 |.snd::p,t,x,x',y,h=>by
  cases t<;>simp only[QH,reduceCtorEq]at h
  split at h
  ·rename_i v hv;exact EM p _ _ v y hv
  ·cases h
 |.idx i::p,t,x,x',y,h=>by
  cases t<;>simp only[QH,reduceCtorEq]at h
  split at h
  ·rename_i v hv;exact EM p _ _ v y hv
  ·cases h
 |.el i::p,t,x,x',y,h=>by
  cases t<;>simp only[QH,reduceCtorEq]at h
  split at h
  ·rename_i v hv;exact EM p _ _ v y hv
  ·cases h
def vg(cs:List Value)(off:Nat)(ds:List Value):List Value:=cs.take off++ds++cs.drop (off+ds.length)
theorem vP{cs ds:List Value}{off:Nat}(h:off+ds.length≤cs.length):(vg cs off ds).length=cs.length:=by
 simp only[vg,qe,zE,zT];omega
theorem getElem?_splice(cs ds:List Value)(off i:Nat)(h:off+ds.length≤cs.length):
  (vg cs off ds)[i]?=if off≤i∧i<off+ds.length then ds[i-off]? else cs[i]?:=by
 unfold vg;by_cases h1:i<off
 ·rw[qT (by omega),zM,zf (by simp;omega),zb,qH h1]
 ·by_cases h2:i<off+ds.length
  ·rw[qH (by omega),zM,zm (by simp;omega),zf (by simp;omega)];congr 1;simp;omega
  ·rw[qT (by omega),zm (by simp;omega),zd];congr 1;simp;omega
theorem tx{cs ds:List Value}{off s n:Nat}(h:off+ds.length≤cs.length)(h1:s≤off)(h2:off+ds.length≤s+n):
  ((vg cs off ds).drop s).take n=vg ((cs.drop s).take n) (off-s) ds:=by
 apply yZ;intro i;have hl:off-s+ds.length≤((cs.drop s).take n).length:=by simp only[zE,zT];omega
 rw[getElem?_splice _ _ _ _ hl,zb,zd,getElem?_splice _ _ _ _ h,zb,zd];by_cases hi:i<n
 ·rw[qH hi,qH hi];by_cases hc:off≤s+i∧s+i<off+ds.length
  ·rw[qH hc,qH (by omega)];congr 1;omega
  ·rw[qT hc,qT (by omega)]
 ·rw[qT hi,qT hi,qT (by omega)]
theorem tZ{cs ds:List Value}{off s n:Nat}(h:off+ds.length≤cs.length)(h1:s+n≤off∨off+ds.length≤s):
  ((vg cs off ds).drop s).take n=(cs.drop s).take n:=by
 apply yZ;intro i;rw[zb,zd,getElem?_splice _ _ _ _ h,zb,zd];by_cases hi:i<n
 ·rw[qH hi,qH hi,qT (by omega)]
 ·rw[qT hi,qT hi]
theorem Aq{M:Mem}{u:Ty}:∀(p:wm) (t:Ty) (x x':t.den) (y:u.den) (off:Nat) (cs ds:List Value),QH t x p u y=some x'→jN t p=some off→jB P t M x cs→jB P u M y ds→
  jB P t M x' (vg cs off ds)
 | [],t,x,x',y,off,cs,ds,hs,ho,h,hd=>by
  have hl:=Qp t M x cs h;simp only[jN,qb]at ho;subst ho;unfold QH Z8 at hs;split at hs
  ·rename_i e;subst e;simp only[qb]at hs;subst hs;have Ff:=Qp _ M y ds hd;have:vg cs 0 ds=ds:=by
    unfold vg;rw[List.take_zero,qP,xl (by omega),qL]
   rwa [this]
  ·cases hs
 |.one::p,t,x,x',y,off,cs,ds,hs,ho,h,hd=>by
  cases t<;>simp only[jN,reduceCtorEq]at ho
  rename_i t;exact Aq p t x x' y off cs ds hs ho h hd
 | .fst::p,t,x,x',y,off,cs,ds,hs,ho,h,hd=>by
  cases t<;>simp only[jN,reduceCtorEq]at ho
  rename_i a b;simp only[QH]at hs;split at hs
  ·rename_i v hv;simp only[qb]at hs;subst hs;have ZT:=Fv p a off (EM p a _ v y hv) ho;have pM:=Qp a M x.1 _ h.1;have an:=Qp u M y ds hd;simp only[zE]at pM;have ih:=Aq p a x.1 v y off _ ds hv ho h.1 hd;have e1:=tx (cs:=cs) (ds:=ds) (off:=off) (s:=0) (n:=a.size) (by omega) (by omega) (by omega);have e2:=tZ (cs:=cs) (ds:=ds) (off:=off) (s:=a.size) (n:=cs.length) (by omega) (by omega);simp only[yz,yO]at e1;refine⟨by rw[e1];exact ih,?_⟩;have e3:(vg cs off ds).drop a.size=cs.drop a.size:=by
    have dS:=vP (cs:=cs) (ds:=ds) (off:=off) (by omega);rw[zF (by rw[zT,dS];omega),zF (by rw[zT];omega)]at e2;exact e2
   rw[e3];exact h.2
  ·cases hs
 | .snd::p,t,x,x',y,off,cs,ds,hs,ho,h,hd=>by
  cases t<;>simp only[jN,reduceCtorEq]at ho
  rename_i a b;obtain⟨o',wQ,rfl⟩:=qB.1 ho;simp only[QH]at hs;split at hs
  ·rename_i v hv;simp only[qb]at hs;subst hs;have ZT:=Fv p b o' (EM p b _ v y hv) wQ;have pM:=Qp a M x.1 _ h.1;have SU:=Qp b M x.2 _ h.2;have an:=Qp u M y ds hd;simp only[zE,zT]at pM SU;have ih:=Aq p b x.2 v y o' _ ds hv wQ h.2 hd;have e1:=tZ (cs:=cs) (ds:=ds) (off:=a.size+o') (s:=0) (n:=a.size) (by omega) (by omega);have e2:=tx (cs:=cs) (ds:=ds) (off:=a.size+o') (s:=a.size) (n:=b.size) (by omega) (by omega) (by omega);simp only[yz]at e1;refine⟨by rw[e1];exact h.1,?_⟩;have dS:=vP (cs:=cs) (ds:=ds) (off:=a.size+o') (by omega);rw[zF (by rw[zT,dS];omega),zF (by rw[zT];omega),yC]at e2;rw[e2];exact ih
  ·cases hs
 | .idx i::p,t,x,x',y,off,cs,ds,hs,ho,h,hd=>by
  cases t<;>simp only[jN,reduceCtorEq]at ho
  rename_i n e;split at ho
  ·rename_i hi;obtain⟨o',wQ,rfl⟩:=qB.1 ho;simp only[QH]at hs;split at hs
   ·rename_i v hv;simp only[qb]at hs;subst hs;have wy:i.toNat<n:=by omega
    have ZT:=Fv p e o' (EM p e _ v y hv) wQ;have an:=Qp u M y ds hd;have jL:(i.toNat+1)*e.size≤n*e.size:=q9 _ wy;simp only[zC,zZ]at jL;have hl:=h.1;have ih:=Aq p e (Gw x i) v y o' _ ds hv wQ (h.2 i.toNat wy) hd;refine⟨by rw[vP (by omega)];exact hl,fun j hj =>?_⟩;by_cases X3:j=i.toNat
    ·subst X3;have e2:=tx (cs:=cs) (ds:=ds) (off:=i.toNat*e.size+o') (s:=i.toNat*e.size) (n:=e.size) (by omega) (by omega) (by omega);rw[yC]at e2;rw[e2];simpa [ZY]using ih
    ·have ju:Nat.beq j i.toNat=false:=by cases hb:Nat.beq j i.toNat with|false=>rfl|true=>exact absurd (qq hb) X3
     have Qn:j*e.size+e.size≤i.toNat*e.size+o'∨i.toNat*e.size+o'+ds.length≤j*e.size:=by
      rcases z7 j i.toNat with hlt|hge
      ·left;have:(j+1)*e.size≤i.toNat*e.size:=q9 _ hlt;simp only[zC,zZ]at this;omega
      ·right;have:(i.toNat+1)*e.size≤j*e.size:=q9 _ (by omega);simp only[zC,zZ]at this;omega
     rw[tZ (by omega) Qn];simp only[ZY,ju,qu];exact h.2 j hj
   ·cases hs
  ·cases ho
 |.el _::_,t,_,_,_,_,_,_,_,ho,_,_=>by cases t<;>simp only[jN,reduceCtorEq]at ho
end Go.Lift
