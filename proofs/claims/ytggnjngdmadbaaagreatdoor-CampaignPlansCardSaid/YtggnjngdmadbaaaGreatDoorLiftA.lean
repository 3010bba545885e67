/-
  Pure values and the evaluator of the model's code on abstract states.
-/
import GoSem.Step
noncomputable section
set_option linter.all false
abbrev js:=ByteArray
abbrev qu:=@cond_false
abbrev qv:=@cond_true
abbrev qw:=@Array.getD_eq_getD_getElem?
abbrev qA:=@Bool.false_eq_true
abbrev qB:=@Option.map_eq_some_iff
abbrev qC:=@List.getD_eq_getElem?_getD
abbrev qE:=@List.mem_singleton
abbrev qF:=@List.mem_cons
abbrev qH:=@if_pos
abbrev qI:=@decide_eq_true_eq
abbrev qJ:=@List.size_toArray
abbrev qK:=@List.mem_of_getElem?
abbrev qL:=@List.append_nil
abbrev qM:=@List.cons.injEq
abbrev qO:=@Option.getD_some
abbrev qP:=@List.nil_append
abbrev qR:=@List.length_nil
abbrev qS:=@List.cons_append
abbrev qT:=@if_neg
abbrev qU:=@beq_eq_false_iff_ne
abbrev qV:=@Nat.lt_of_lt_of_le
abbrev qW:=@List.all_eq_true
abbrev qX:=@Prod.mk.injEq
abbrev qY:=@Nat.zero_add
abbrev qZ:=@Array.getElem?_eq_getElem
abbrev q8:=@List.mem_append_left
abbrev q9:=@Nat.mul_le_mul_right
abbrev zb:=@List.getElem?_take
abbrev zd:=@List.getElem?_drop
abbrev ze:=@Nat.le_trans
abbrev zf:=@List.getElem?_append_left
abbrev zg:=@List.length_map
abbrev zh:=@Array.getElem?_toList
abbrev zi:=@Bool.not_true
abbrev zj:=@Array.replicate_succ
abbrev zk:=@Array.replicate_zero
abbrev zl:=@List.map_cons
abbrev zm:=@List.getElem?_append_right
abbrev zn:=@List.eq_nil_of_length_eq_zero
abbrev zo:=@List.append_toArray
abbrev zp:=@if_false
abbrev zr:=@List.getElem?_cons_zero
abbrev zv:=@List.map_append
abbrev zw:=@List.push_toArray
abbrev zx:=@List.mem_append_right
abbrev zz:=@Nat.zero_le
abbrev zA:=@and_true
abbrev zB:=@List.mem_append
abbrev zC:=@Nat.add_mul
abbrev zD:=@List.getElem?_eq_none
abbrev zE:=@List.length_take
abbrev zF:=@List.take_of_length_le
abbrev zG:=@List.mem_map
abbrev zI:=@List.any_eq_true
abbrev zJ:=@Bool.true_and
abbrev zK:=@Option.map_some
abbrev zL:=@Array.getElem?_modify
abbrev zM:=@List.append_assoc
abbrev zN:=@Array.length_toList
abbrev zO:=@Bool.not_eq_true'
abbrev zP:=@bne_iff_ne
abbrev zQ:=@Option.some.inj
abbrev zR:=@List.mem_cons_self
abbrev zS:=@Bool.false_and
abbrev zT:=@List.length_drop
abbrev zW:=@Nat.not_lt_zero
abbrev zX:=@Bool.or_eq_false_iff
abbrev zY:=@List.range_eq_range'
abbrev zZ:=@Nat.one_mul
abbrev z6:=@List.nodup_cons
abbrev z7:=@Nat.lt_or_ge
abbrev z8:=@List.getElem?_cons_succ
abbrev yb:=@List.not_mem_nil
abbrev yd:=@List.mem_filterMap
abbrev yg:=@Bool.false_ne_true
abbrev yh:=@Bool.or_eq_true
abbrev yj:=@List.nodup_append
abbrev yk:=@List.flatten_cons
abbrev yl:=@Array.toArray_toList
abbrev ym:=@Nat.beq_refl
abbrev yn:=@Bool.not_false
abbrev yo:=@beq_iff_eq
abbrev yp:=@if_true
abbrev yr:=@Array.getElem?_setIfInBounds_ne
abbrev yu:=@Classical.choose_spec
abbrev yw:=@List.mem_filter
abbrev yx:=@List.length_set
abbrev yz:=@List.drop_zero
abbrev yC:=@Nat.add_sub_cancel_left
abbrev yD:=@List.head_eq_of_cons_eq
abbrev yE:=@decide_eq_true
abbrev yF:=@Bool.false_or
abbrev yG:=@List.getElem?_map
abbrev yH:=@List.any_cons
abbrev yJ:=@List.dropLast_concat
abbrev yK:=@Nat.add_zero
abbrev yL:=@Ne.symm
abbrev yM:=@List.findIdx?_eq_some_iff_getElem
abbrev yO:=@Nat.sub_zero
abbrev yP:=@Int.toNat_natCast
abbrev yQ:=@Array.getElem?_setIfInBounds_self_of_lt
abbrev yR:=@Array.ext'
abbrev yU:=@List.find?_cons
abbrev yV:=@Nat.sub_self
abbrev yX:=@List.Nodup.length_le_of_subset
abbrev yY:=@List.rel_of_pairwise_cons
abbrev yZ:=@List.ext_getElem?
abbrev y9:=@List.take_append_of_le_length
abbrev xa:=@List.mapM_toArray
abbrev xb:=@Go.Value.slice.injEq
abbrev xc:=@List.mem_iff_getElem?
abbrev xe:=@Nat.mul_one
abbrev xf:=@List.length_eq_zero_iff
abbrev xg:=@List.map_toArray
abbrev xh:=@List.mem_iff_getElem
abbrev xi:=@Nat.lt_irrefl
abbrev xj:=@Bool.or_false
abbrev xk:=@List.drop_drop
abbrev xl:=@List.drop_of_length_le
abbrev xm:=@List.mapM_cons
abbrev xn:=@List.nodup_nil
abbrev xp:=@List.mem_range
abbrev xr:=@List.drop_eq_getElem_cons
abbrev xt:=@Array.eq_empty_of_size_eq_zero
abbrev xu:=@Option.isSome_none
abbrev xv:=@Array.toList_map
abbrev xw:=@Nat.blt_eq
abbrev xy:=@List.mem_flatten
abbrev xA:=@Nat.add_assoc
abbrev xC:=@List.map_nil
abbrev xE:=@List.mapM_nil
abbrev xF:=@List.drop_append_of_le_length
abbrev xG:=@Nat.mul_le_mul
abbrev xH:=@List.pairwise_append
abbrev xI:=@of_decide_eq_true
abbrev xJ:=@List.mem_range'_1
abbrev xK:=@List.pairwise_singleton
abbrev xL:=@List.flatMap_cons
abbrev xQ:=@List.take_take
abbrev xR:=@List.getElem_append_right
abbrev xS:=@List.findIdx?_eq_none_iff
abbrev xT:=@List.mem_or_eq_of_mem_set
abbrev xU:=@Option.map_none
abbrev xV:=@Go.Obj.cells.injEq
abbrev xW:=@decide_eq_false
abbrev ka:=@or_false
abbrev kd:=@List.getElem_append_left
abbrev ke:=@List.drop_take
abbrev kg:=@Bool.and_false
abbrev kh:=@List.range'_succ
abbrev kj:=@List.getElem_cons_zero
abbrev kl:=@List.pairwise_lt_range
abbrev kn:=@Bool.eq_iff_iff
abbrev kp:=@Array.getElem?_setIfInBounds
abbrev kr:=@List.all_cons
abbrev ku:=@Array.getElem?_append
abbrev kx:=@List.length_filter_le
abbrev kz:=@List.getElem?_set_ne
abbrev kA:=@List.getElem_map
abbrev kB:=@List.length_tail
abbrev kG:=@List.getElem?_eq_none_iff
abbrev kH:=@List.getElem_of_mem
abbrev kK:=@List.flatten_append
abbrev kL:=@List.map_congr_left
abbrev kM:=@Array.size_setIfInBounds
abbrev kN:=@Go.Addr.mk.injEq
abbrev kO:=@true_and
abbrev kP:=@Bool.and_self
abbrev kV:=@List.append_of_mem
abbrev kW:=@Nat.add_sub_cancel
abbrev kX:=@List.filter_cons_of_neg
abbrev kZ:=@List.getElem?_set
abbrev k7:=@Array.toList_push
abbrev jb:=@List.any_eq_false
abbrev jg:=@List.drop_append
abbrev jh:=@Nat.lt_succ_self
abbrev jj:=@List.mem_flatMap
abbrev jl:=@List.take_length
abbrev jm:=@List.perm_middle
abbrev jn:=@List.any_reverse
abbrev jp:=@Int.le_refl
namespace Go.Lift
universe u v
theorem qb{α:Type u}{a b:α}:(some a=some b)=(a=b):=Option.some.injEq a b
theorem qd{α:Type u}{x:Array α}{i:Nat}{b:α}:x[i]?=some b↔∃h:i<x.size,x[i]=b:=Array.getElem?_eq_some_iff
theorem qe{α:Type u}{a b:List α}:(a++b).length=a.length+b.length:=List.length_append
theorem qg(a b:Bool):((a&&b)=true)=(a=true∧b=true):=Bool.and_eq_true a b
theorem qh{α:Type u}{β:Type v}(a:α)(f:α→Option β):(some a).bind f=f a:=rfl
theorem qi{α:Type u}{β:Type v}{o:Option α}{f:α→Option β}{b:β}:o.bind f=some b↔∃a,o=some a∧f a=some b:=Option.bind_eq_some_iff
theorem qj{α:Type u}{a:α}:[a].length=1:=rfl
theorem qk{α:Type u}{a:α}{l:List α}:(a::l).length=l.length+1:=rfl
theorem ql(n:Nat):n≤n:=Nat.le_refl n
theorem qo{α:Type u}(y:α){a:α}{l:List α}(h:a∈l):a∈y::l:=List.mem_cons_of_mem y h
theorem qp{α:Type u}{l:List α}{i:Nat}{a:α}:l[i]?=some a↔∃h:i<l.length,l[i]=a:=List.getElem?_eq_some_iff
theorem qq{n m:Nat}(h:Nat.beq n m=true):n=m:=Nat.eq_of_beq_eq_true h
theorem qr{α:Type u}{l:List α}{i:Nat}(h:i<l.length):l[i]?=some l[i]:=List.getElem?_eq_getElem h
open Go
inductive Ty where
 |int (k:IntKind)|bool|str|unit|err
 |one (t:Ty)
 |pair (a b:Ty)
 |arr (n:Nat) (e:Ty)
 |slice (e:Ty)
 |ptr (t:Ty)
 |fn (a r:Ty)
 |seq (e:Ty)
 |mapT (k v:Ty)
 deriving DecidableEq
@[reducible] def Ty.den:Ty→Type
 |.int _=>Int
 |.bool=>Bool
 |.str=>js
 |.unit=>Unit
 |.err=>Bool
 |.one t=>t.den
 |.pair a b=>a.den×b.den
 |.arr _ e=>Nat→e.den
 |.slice e=>List e.den
 |.ptr t=>t.den
 |.fn a r=>a.den→Option r.den
 |.seq e=>List e.den
 |.mapT k v=>List (k.den×v.den)
def Ty.dflt:(t:Ty)→t.den
 |.int _=>(0:Int)
 |.bool=>false
 |.str=>ByteArray.empty
 |.unit=>()
 |.err=>true
 |.one t=>t.dflt
 |.pair a b=>(a.dflt,b.dflt)
 |.arr _ e=>fun _=>e.dflt
 |.slice _=>[]
 |.ptr t=>t.dflt
 |.fn _ _=>fun _=>none
 |.seq _=>[]
 |.mapT _ _=>[]
def Ty.scal:Ty→Bool
 |.int _ |.bool |.str=>true
 |_=>false
def encS:(e:Ty)→e.den→Value
 |.int k,x =>.int k x
 |.bool,x =>.bool x
 |.str,x =>.string x
 |_,_=>undef
def Ty.plain:Ty→Bool
 |.ptr _ |.fn _ _ |.seq _ |.mapT _ _=>false
 |.one t=>t.plain
 |.pair a b=>a.plain&&b.plain
 |.arr _ e=>e.plain
 |_=>true
def Ty.agg:Ty→Bool
 |.unit |.one _ |.pair _ _ |.arr _ _=>true
 |_=>false
def Ty.size:Ty→Nat
 |.unit=>0
 |.one t=>t.size
 |.pair a b=>a.size+b.size
 |.arr n e=>n*e.size
 |_=>1
inductive Step where
 |one|fst|snd|idx (i:Int)|el (i:Int)
abbrev wm:=List Step
abbrev Own:=List (wm×Option Nat)
@[reducible] def vx:List Ty→Type
 |[]=>Unit
 |[t]=>t.den
 |t::u::r=>t.den×vx (u::r)
structure Sig where
 f:FuncId
 ats:List Ty
 rts:List Ty
 run:vx ats→Option (vx rts)
abbrev EF:=Sum Nat (Sigma Ty.den)
structure aW where
 e:Ty
 F:js→js→Option (List e.den)
inductive AVal where
 |data (t:Ty) (x:t.den) (own:Own)
 |bptr (b:Nat) (p:wm)
 |rowp (b:Nat)
 |mapp (b:Nat)
 |tup (ts:List Ty) (x:vx ts)
 |clo (g:FuncId) (caps:List EF)
 |undef
 |raw (v:Value)
 |iter (b:Nat) (e:Ty) (F:js→Option (List e.den))
structure Box where
 tid:TypeId
 t:Ty
 x:t.den
 own:Own
 rows:Bool
def vH{α:Type}(f:Nat→α)(k:Nat)(v:α):Nat→α:=fun s=>bif Nat.beq s k then v else f s
structure St where
 env:Nat→Option AVal
 box:Nat→Option Box
 tok:Nat→Bool
 dirty:Nat→Bool
def Z8(t u:Ty)(x:t.den):Option u.den:=if h:t=u then some (h▸x)else none
def AVal.get(v:Option AVal)(u:Ty):Option u.den:=
 match v with
 |some (.data t x _)=>Z8 t u x
 |_=>none
def AVal.int(v:Option AVal):Option Int:=
 match v with
 |some (.data (.int _) x _)=>some x
 |_=>none
def ZY{α:Type}(x:Nat→α)(i:Int)(v:α):Nat→α:=fun j=>bif Nat.beq j i.toNat then v else x j
def Gw{α:Type}(x:Nat→α)(i:Int):α:=x i.toNat
def jt{α:Type}(d:α)(l:List α)(i:Int):α:=l.getD i.toNat d
def QK{α:Type}(l:List α)(i:Int)(v:α):List α:=l.set i.toNat v
def Xk(s:js)(i:Int):Int:=((s.data.getD i.toNat 0).toNat:Int)
def Zj(s:js):List Int:=s.data.toList.map fun b=>((b.toNat:Nat):Int)
def oz(l:List Int):js:=⟨(l.map fun n=>UInt8.ofNat n.toNat).toArray⟩
def jO(a b:js):Bool:=a.toList==b.toList
def Kn(x y:Int):Int:=if y>x then y else x
def dK(x y:Int):Int:=if y<x then y else x
def chk{A:Type}(c:Bool)(k:Option A):Option A:=bif c then k else none
def app{α:Type}(l m:List α):Option (List α):=if l.length+m.length≤4294967296 then some (l++m)else none
def cat(a b:js):Option js:=if a.size+b.size≤4294967296 then some (a++b)else none
def Qv:(t:Ty)→t.den→wm→(u:Ty)→Option u.den
 |t,x,[],u=>Z8 t u x
 |.one t,x,.one::p,u=>Qv t x p u
 |.pair a _,x,.fst::p,u=>Qv a x.1 p u
 |.pair _ b,x,.snd::p,u=>Qv b x.2 p u
 |.arr _ e,x,.idx i::p,u=>Qv e (Gw x i) p u
 |.slice e,x,.el i::p,u=>Qv e (jt e.dflt x i) p u
 |_,_,_,_=>none
def QH:(t:Ty)→t.den→wm→(u:Ty)→u.den→Option t.den
 |t,_,[],u,y=>Z8 u t y
 |.one t,x,.one::p,u,y=>QH t x p u y
 |.pair a _,x,.fst::p,u,y=>match QH a x.1 p u y with
  |some v=>some (v,x.2)
  |none=>none
 |.pair _ b,x,.snd::p,u,y=>match QH b x.2 p u y with
  |some v=>some (x.1,v)
  |none=>none
 |.arr _ e,x,.idx i::p,u,y=>match QH e (Gw x i) p u y with
  |some v=>some (ZY x i v)
  |none=>none
 |.slice e,x,.el i::p,u,y=>match QH e (jt e.dflt x i) p u y with
  |some v=>some (QK x i v)
  |none=>none
 |_,_,_,_,_=>none
def Ty.atP:Ty→wm→Option Ty
 |t,[]=>some t
 |.one t,.one::p=>t.atP p
 |.pair a _,.fst::p=>a.atP p
 |.pair _ b,.snd::p=>b.atP p
 |.arr _ e,.idx _::p=>e.atP p
 |.slice e,.el _::p=>e.atP p
 |_,_=>none
def z12:(n i:Nat)→wm
 |0,_=>[]
 |1,_=>[.one]
 |_+2,0=>[.fst]
 |2,_+1=>[.snd]
 |n+3,i+1 =>.snd::z12 (n+2) i
def WH:(p q:wm)→Option wm
 |[],q=>some q
 |.one::p,.one::q |.fst::p,.fst::q |.snd::p,.snd::q=>WH p q
 |_,_=>none
def EP:wm→Bool
 |[]=>true
 |.one::p |.fst::p |.snd::p=>EP p
 |_=>false
def CU(o:Own)(p:wm):Own:=o.filterMap fun(q,s)=>(WH p q).map fun r=>(r,s)
def bp(o:Own)(p:wm):Own:=o.map fun(q,s)=>(p++q,s)
def lP(o:Own)(p:wm)(n:Own):Own:=
 if EP p then(o.filter fun(q,_)=>(WH p q).isNone&&(WH q p).isNone)++bp n p else[]
def Ec:Ty→Own
 |.slice _=>[([],none)]
 |.one t=>bp (Ec t) [.one]
 |.pair a b=>bp (Ec a) [.fst]++bp (Ec b) [.snd]
 |_=>[]
def GG:Own→Option (Option Nat)
 |[]=>none
 |([],s)::_=>some s
 |_::r=>GG r
def Own.lose(k:Nat)(o:Own):Own:=o.filter fun(_,s)=>s !=some k
def AVal.lose(k:Nat):AVal→AVal
 |.data t x o =>.data t x (Own.lose k o)
 |v=>v
def Box.lose(k:Nat)(B:Box):Box:={B with own:=Own.lose k B.own}
def St.lose(σ:St)(k:Option Nat):St:=
 match k with
 |none=>σ
 |some k=>{σ with env:=fun s=>(σ.env s).map (AVal.lose k),box:=fun b=>(σ.box b).map (Box.lose k),tok:=fun j=>bif Nat.beq j k then false else σ.tok j,dirty:=vH σ.dirty k true}
class Mf where
 on:Bool
structure QW where
 ty:TypeId→Option Ty
 nf:TypeId→Nat
 sig:FuncId→Option Sig
 own:Nat→Bool
 eqs:TypeId→Bool
 maps:Bool
 news:FuncId→Bool:=fun _=>false
 owns:FuncId→Bool:=fun _=>false
 iters:FuncId→Option aW:=fun _=>none
 gown:Bool:=false
def St.opd(σ:St):Operand→Option AVal
 |.tmp t=>σ.env t
 |.const (.int k n)=>some (.data (.int k) n [])
 |.const (.bool b)=>some (.data .bool b [])
 |.const (.string s)=>some (.data .str s [])
 |.func g=>some (.clo g [])
 |.const .nilFunc=>some (.raw .nilFunc)
 |.const (.pointer none)=>some (.raw (.pointer none))
 |_=>none
def St.opdN(σ:St)(T:Option Ty)(y:Operand):Option AVal:=
 match y,T with
 |.const (.slice none 0 0),some (.slice e)=>some (.data (.slice e) [] [([],none)])
 |y,_=>σ.opd y
def St.set(σ:St)(d:Option Nat)(v:AVal):St:=
 match d with
 |some d=>{σ with env:=vH σ.env d (some v)}
 |none=>σ
def St.unset(σ:St)(d:Option Nat):St:=
 match d with
 |some d=>{σ with env:=vH σ.env d none}
 |none=>σ
def St.bool(σ:St)(x:Operand):Option Bool:=AVal.get (σ.opd x) .bool
inductive Eff where
 |fail
 |val (v:AVal)
 |chk (c:Bool) (v:AVal)
 |cat (a b:js)
 |bytes (a:js)
 |call (s:Sig) (x:vx s.ats)
 |newRow (tid:TypeId) (e:Ty) (y:Option (List e.den))
 |newOwn (e:Ty) (y:Option (List e.den))
 |newIter (e:Ty) (F:js→Option (List e.den)) (x:js)
 |dyn (a r:Ty) (φ:a.den→Option r.den) (x:a.den)
 |alloc (B:Box)
 |store (b:Nat) (B:Box)
 |fresh (c:Bool) (e:Ty) (l:List e.den)
 |row (c:Bool) (tid:TypeId) (e:Ty) (l:List e.den)
 |app (e:Ty) (l m:List e.den) (src:Option Nat)
def oa(op:BinOp)(k:IntKind)(x y:Int):Eff:=
 match op with
 |.add =>.val (.data (.int k) (k.wrap (x+y)) [])
 |.sub =>.val (.data (.int k) (k.wrap (x-y)) [])
 |.mul =>.val (.data (.int k) (k.wrap (x*y)) [])
 |.quo =>.chk (y !=0) (.data (.int k) (k.wrap (x.tdiv y)) [])
 |.rem =>.chk (y !=0) (.data (.int k) (x.tmod y) [])
 |.eql =>.val (.data .bool (x==y) [])
 |.neq =>.val (.data .bool (x !=y) [])
 |.lss =>.val (.data .bool (decide (x<y)) [])
 |.leq =>.val (.data .bool (decide (x≤y)) [])
 |.gtr =>.val (.data .bool (decide (x>y)) [])
 |.geq =>.val (.data .bool (decide (x≥y)) [])
 |.and =>.val (.data (.int k) (k.wrap (BitVec.ofInt k.bits x &&& BitVec.ofInt k.bits y).toNat) [])
 |.or =>.val (.data (.int k) (k.wrap (BitVec.ofInt k.bits x ||| BitVec.ofInt k.bits y).toNat) [])
 |.xor =>.val (.data (.int k) (k.wrap (BitVec.ofInt k.bits x ^^^ BitVec.ofInt k.bits y).toNat) [])
 |.andNot =>.val (.data (.int k) (k.wrap (BitVec.ofInt k.bits x &&& ~~~BitVec.ofInt k.bits y).toNat) [])
 |_ =>.fail
def sW(op:BinOp)(k:IntKind)(x y:Int):Eff:=
 match op with
 |.shl =>.chk (decide (0≤y)) (.data (.int k) (k.wrap (x*2 ^ (min y.toNat k.bits))) [])
 |.shr =>.chk (decide (0≤y)) (.data (.int k) (x.fdiv (2 ^ (min y.toNat k.bits))) [])
 |_ =>.fail
def Ty.eqb:(t:Ty)→t.den→t.den→Bool
 |.int _,x,y=>x==y
 |.bool,x,y=>x==y
 |.str,x,y=>jO x y
 |.one t,x,y=>t.eqb x y
 |.pair a b,x,y=>a.eqb x.1 y.1&&b.eqb x.2 y.2
 |.arr n e,x,y=>(List.range n).all fun i=>e.eqb (x i) (y i)
 |_,_,_=>false
def wK(k v:Ty)(l:List (k.den×v.den))(x:k.den):v.den:=match l.find? fun p=>k.eqb x p.1 with
 |some p=>p.2
 |none=>v.dflt
def ZP(k v:Ty):List (k.den×v.den)→k.den→v.den→List (k.den×v.den)
 |[],x,y=>[(x,y)]
 |p::l,x,y=>bif k.eqb x p.1 then(p.1,y)::l else p::ZP k v l x y
def KF(σ:St)(arg:Operand→(t:Ty)→Option t.den):(ts:List Ty)→List Operand→Option (vx ts)
 |[],[]=>some ()
 |[t],[x]=>arg x t
 | t::u::r,x::xs=>match arg x t with
  |some v=>match KF σ arg (u::r) xs with
   |some w=>some (v,w)
   |none=>none
  |none=>none
 |_,_=>none
def YW(σ:St)(arg:Operand→(t:Ty)→Option t.den):(ts:List Ty)→List Operand→List (Sigma Ty.den)→Option (vx ts)
 |[],[],[]=>some ()
 |[t],[x],[]=>arg x t
 |[t],[],[c]=>Z8 (.ptr c.1) t c.2
 |t::u::r,x::xs,cs=>match arg x t,YW σ arg (u::r) xs cs with
  |some v,some w=>some (v,w)
  |_,_=>none
 |t::u::r,[],c::cs=>match Z8 (.ptr c.1) t c.2,YW σ arg (u::r) [] cs with
  |some v,some w=>some (v,w)
  |_,_=>none
 |_,_,_=>none
def AVal.res:(ts:List Ty)→vx ts→AVal
 |[],_ =>.tup [] ()
 |[t],x =>.data t x []
 |t::u::r,x =>.tup (t::u::r) x
def Aa:(ts:List Ty)→vx ts→Nat→Option AVal
 |[t],x,0=>some (.data t x [])
 |t::_::_,x,0=>some (.data t x.1 [])
 |_::u::r,x,i+1=>Aa (u::r) x.2 i
 |_,_,_=>none
def sS(a:Ty)(x:a.den):(cs:List (Sigma Ty.den))→vx (a::cs.map fun c =>.ptr c.1)
 |[]=>x
 |c::r=>(x,sS (.ptr c.1) c.2 r)
def GK:List EF→Option (List (Sigma Ty.den))
 |[]=>some []
 |.inr c::r=>match GK r with
  |some l=>some (c::l)
  |none=>none
 |.inl _::_=>none
def yap{l m:List Ty}(h:l=m)(y:Option (vx l)):Option (vx m):=h▸y
def yd1{l m:List Ty}(h:l=m)(y:vx m):vx l:=h▸y
def Sig.listRun(s:Sig)(e:Ty)(x:vx s.ats):Option (List e.den):=if h:s.rts=[.slice e]then yap h (s.run x)else none
def sJ(s:Sig)(cs:List (Sigma Ty.den))(a r:Ty):Option (a.den→Option r.den):=
 if h:s.ats=a::cs.map (fun c =>.ptr c.1)then
  if h':s.rts=[r]then some fun x=>yap h' (s.run (yd1 h (sS a x cs)))else none
 else none
section
variable (Γ:QW)
def St.arg(σ:St)(x:Operand)(t:Ty):Option t.den:=
 match t with
 | .fn a r=>match x with
  |.func g=>match Γ.sig g with
   |some s=>sJ s [] a r
   |none=>none
  | x=>match σ.opd x with
   |some (.clo g caps)=>match Γ.sig g,GK caps with
    |some s,some cs=>sJ s cs a r
    |_,_=>none
   |v=>AVal.get v (.fn a r)
 |.slice e=>match x with
  |.const (.slice none 0 0)=>some []
  |x=>AVal.get (σ.opd x) (.slice e)
 |t=>AVal.get (σ.opd x) t
def D9(n:Nat)(σ:St):List (Nat×Operand)→(t:Ty)→t.den→Own→Option (t.den×Own)
 |[],_,x,o=>some (x,o)
 | (i,y)::rest,t,x,o=>match t.atP (z12 n i),σ.opd y with
  | some u,some (.data u' v ow)=>match Z8 u' u v with
   |some v=>match QH t x (z12 n i) u v with
    |some x'=>D9 n σ rest t x' (lP o (z12 n i) ow)
    |none=>none
   |none=>none
  |_,_=>none
def Cg(e:Ty)(σ:St):List (Nat×Operand)→(Nat→e.den)→Option (Nat→e.den)
 |[],x=>some x
 |(i,y)::rest,x=>match AVal.get (σ.opd y) e with
  |some v=>Cg e σ rest (ZY x (i:Int) v)
  |none=>none
def GP(e:Ty)(σ:St):Nat→List (Nat×Operand)→Option (List e.den)
 |_,[]=>some []
 | i,(j,o)::rest=>if i=j then match AVal.get (σ.opdN (some e) o) e,GP e σ (i+1) rest with
   |some v,some l=>some (v::l)
   |_,_=>none
  else none
def EH(v:Option AVal):Eff:=match v with
 |some v =>.val v
 |none =>.fail
def Ps:Operand→Option Nat
 |.tmp s=>some s
 |_=>none
def D5(σ:St):List Operand→Option (List EF)
 |[]=>some []
 |x::r=>match σ.opd x,D5 σ r with
  |some (.bptr b []),some l=>some (.inl b::l)
  |some (.data (.ptr t) y _),some l=>some (.inr ⟨t,y⟩::l)
  |_,_=>none
def jK(o:Oper)(σ:St):Eff:=
 match o.op with
 | .move x | .assign x=>match x with
  |.const (.slice none 0 0)=>match Γ.ty o.type with
   |some (.slice e) =>.val (.data (.slice e) [] [([],none)])
   |_ =>.fail
  |x=>EH (σ.opd x)
 | .pick c a b=>match σ.bool c with
  |some g=>match(if g then σ.bool a else σ.bool b)with
   |some v =>.val (.data .bool v [])
   |none =>.fail
  |none =>.fail
 | .binOp op T x y _=>
  match σ.opd x,σ.opd y with
  |some (.data (.int k) a _),some (.data (.int j) b _)=>match op with
   |.shl |.shr=>sW op k a b
   |op=>if k=j then oa op k a b else .fail
  |some (.data .str a _),some (.data .str b _)=>match op with
   |.add =>.cat a b
   |.eql =>.val (.data .bool (jO a b) [])
   |.neq =>.val (.data .bool (!jO a b) [])
   |_ =>.fail
  | some (.data t a _),some (.data u b _)=>match Γ.ty T with
   | some t'=>if t=t'∧(t = .bool∨Γ.eqs T=true)then match Z8 u t b with
     |some b=>match op with
      |.eql =>.val (.data .bool (t.eqb a b) [])
      |.neq =>.val (.data .bool (!t.eqb a b) [])
      |_ =>.fail
     |none =>.fail
    else .fail
   |none =>.fail
  | some (.data .err a _),none=>if Γ.ty T=some .err then match y,op with
    |.const .nilIface,.eql =>.val (.data .bool a [])
    |.const .nilIface,.neq =>.val (.data .bool (!a) [])
    |_,_ =>.fail
   else .fail
  | some (.data (.slice e) l own),none=>if Γ.ty T=some (.slice e)then match y,op with
    |.const (.slice none 0 0),.eql=>match GG own with
     |some none =>.val (.data .bool true [])
     |_ =>.chk (!l.isEmpty) (.data .bool false [])
    |_,_ =>.fail
   else .fail
  |_,_ =>.fail
 |.unOp .neg _ x=>match σ.opd x with
  |some (.data (.int k) a _) =>.val (.data (.int k) (k.wrap (0-a)) [])
  |_ =>.fail
 |.unOp .not _ x=>match σ.bool x with
  |some b =>.val (.data .bool (!b) [])
  |none =>.fail
 |.convert st dt x=>match(if(Γ.ty st).isSome then Γ.ty dt else none),σ.opd x with
  |some (.int k),some (.data (.int _) a _) =>.val (.data (.int k) (k.wrap a) [])
  |some (.slice (.int .u8)),some (.data .str a _) =>.bytes a
  |some .str,some (.data (.slice (.int .u8)) l _)=>if Γ.ty st=some (.slice (.int .u8))then .val (.data .str (oz l) [])else .fail
  |some .str,some (.data .str a _) =>.val (.data .str a [])
  |_,_ =>.fail
 | .box e x=>match Γ.ty e,σ.opd x with
  |some t,some (.data u v ow)=>match Z8 u t v with
   |some v =>.alloc ⟨e,t,v,ow,false⟩
   |none =>.fail
  |_,_ =>.fail
 |.alloc e=>match Γ.ty e with
  |some t=>if t.plain then .alloc ⟨e,t,t.dflt,Ec t,false⟩else .fail
  |none =>.fail
 | .fieldAddr s x f=>if f<Γ.nf s then match Γ.ty s,σ.opd x with
   |some t,some (.bptr b p)=>match σ.box b,t.atP (z12 (Γ.nf s) f)with
    |some B,some u=>if B.t.atP p=some t∧0<u.size then .val (.bptr b (p++z12 (Γ.nf s) f))else .fail
    |_,_ =>.fail
   | some t,some (.data (.ptr t') v _)=>match Z8 t' t v,t.atP (z12 (Γ.nf s) f)with
    | some v,some u=>if 0<u.size then match Qv t v (z12 (Γ.nf s) f) u with
      |some y =>.val (.data (.ptr u) y [])
      |none =>.fail
     else .fail
    |_,_ =>.fail
   |_,_ =>.fail
  else .fail
 | .indexAddr T x i=>match AVal.get (σ.opd i) (.int .i64)with
  |none =>.fail
  | some j=>match Γ.ty T,σ.opd x with
   |some (.slice e'),some (.data (.slice e) l _)=>if e'=e then .chk (decide (0≤j)&&decide (j<(l.length:Int))) (.data (.ptr e) (jt e.dflt l j) [])else .fail
   |some (.arr n e),some (.bptr b p)=>match σ.box b with
    |some B=>if B.t.atP p=some (.arr n e)then .chk (decide (0≤j)&&decide (j<(n:Int))) (.bptr b (p++[.idx j]))else .fail
    |none =>.fail
   |some (.arr n' e'),some (.data (.ptr (.arr n e)) v _)=>if n'=n∧e'=e then .chk (decide (0≤j)&&decide (j<(n:Int))) (.data (.ptr e) (Gw v j) [])else .fail
   |some (.slice e'),some (.rowp b)=>match σ.box b with
    |some ⟨_,.slice e,l,_,true⟩=>if e'=e then .chk (decide (0≤j)&&decide (j<(l.length:Int))) (.bptr b [.el j])else .fail
    |_ =>.fail
   |_,_ =>.fail
 | .load t x=>match Γ.ty t,σ.opd x with
  | some u,some (.bptr b p)=>match σ.box b with
   |some B=>match Qv B.t B.x p u with
    |some v =>.val (.data u v (CU B.own p))
    |none =>.fail
   |none =>.fail
  |some u,some (.data (.ptr t) v _)=>match Z8 t u v with
   |some v =>.val (.data u v [])
   |none =>.fail
  |_,_ =>.fail
 | .store t x y=>match Γ.ty t,σ.opd x,σ.opdN (Γ.ty t) y with
  | some u,some (.bptr b p),some (.data u' v ow)=>match σ.box b,Z8 u' u v with
   |some B,some v=>match QH B.t B.x p u v with
    |some x' =>.store b ⟨B.tid,B.t,x',lP B.own p ow,B.rows⟩
    |none =>.fail
   |_,_ =>.fail
  |_,_,_ =>.fail
 | .build t ps=>match Γ.ty t with
  | some (.arr n e)=>if e.plain&&ps.toList.all fun p=>decide (p.1<n)then match Cg e σ ps.toList (fun _=>e.dflt)with
    |some x =>.val (.data (.arr n e) x [])
    |none =>.fail
   else .fail
  | some u=>if u.plain&&u.agg&&ps.toList.all fun p=>decide (p.1<Γ.nf t)then match D9 (Γ.nf t) σ ps.toList u u.dflt (Ec u)with
    |some (x,o) =>.val (.data u x o)
    |none =>.fail
   else .fail
  |none =>.fail
 | .buildSlice t n ps=>match Γ.ty t with
  | some (.slice e)=>if e.plain&&decide (n*e.size≤16777216)&&decide (n≤16777216)then match GP e σ 0 ps.toList with
    |some l=>if l.length=n then(bif o.guard.isNone&&o.dst.any Γ.own then .row true t e l else .fresh true e l)else .fail
    |none =>.fail
   else .fail
  |_ =>.fail
 |.index T x i=>match Γ.ty T,σ.opd x,AVal.int (σ.opd i)with
  |some (.arr n' e'),some (.data (.arr n e) v _),some j=>if n'=n∧e'=e then .chk (decide (0≤j)&&decide (j<(n:Int))) (.data e (Gw v j) [])else .fail
  |some .str,some (.data .str s _),some j =>.chk (decide (0≤j)&&decide (j<(s.size:Int))) (.data (.int .u8) (Xk s j) [])
  |_,_,_ =>.fail
 | .field s x f=>if f<Γ.nf s then match Γ.ty s,σ.opd x with
   | some t,some (.data t' v ow)=>match Z8 t' t v,t.atP (z12 (Γ.nf s) f)with
    |some v,some u=>match Qv t v (z12 (Γ.nf s) f) u with
     |some y =>.val (.data u y (CU ow (z12 (Γ.nf s) f)))
     |none =>.fail
    |_,_ =>.fail
   |_,_ =>.fail
  else .fail
 |.nilCheck x=>match σ.opd x with
  |some (.bptr b p) =>.val (.bptr b p)
  |some (.data (.ptr t) v _) =>.val (.data (.ptr t) v [])
  |_ =>.fail
 |.extract x i=>match σ.opd x with
  |some (.tup ts v)=>EH (Aa ts v i)
  |_ =>.fail
 | .slice T x lo hi none=>
  match(match lo with|none=>some 0|some a=>AVal.get (σ.opd a) (.int .i64))with
  |none =>.fail
  | some a=>match Γ.ty T,σ.opd x with
   |some (.slice e'),some (.data (.slice e) l _)=>match(match hi with|none=>some (l.length:Int)|some b=>AVal.get (σ.opd b) (.int .i64))with
    |none =>.fail
    |some b=>if e'=e then .chk (decide (0≤a)&&decide (a≤b)&&decide (b≤(l.length:Int))) (.data (.slice e) ((l.take b.toNat).drop a.toNat) [])else .fail
   |some .str,some (.data .str s _)=>match(match hi with|none=>some (s.size:Int)|some b=>AVal.get (σ.opd b) (.int .i64))with
    |none =>.fail
    |some b =>.chk (decide (0≤a)&&decide (a≤b)&&decide (b≤(s.size:Int))) (.data .str (s.extract a.toNat b.toNat) [])
   |some (.arr n' e'),some (.data (.ptr (.arr n e)) v _)=>match lo,hi with
    |none,none=>if n'=n∧e'=e then .val (.data (.slice e) ((List.range n).map v) [])else .fail
    |_,_ =>.fail
   |_,_ =>.fail
 | .makeSlice t n c=>match Γ.ty t,AVal.get (σ.opd n) (.int .i64),AVal.get (σ.opd c) (.int .i64),o.dst with
  |some (.slice e),some j,some j',some d=>if !e.plain then .fail else if Γ.own d then .fresh (decide (0≤j)&&decide (j≤4294967296)&&(j==j')) e (List.replicate j.toNat e.dflt)
   else .row (decide (0≤j)&&decide (j≤4294967296)&&(j==j')) t e (List.replicate j.toNat e.dflt)
  |_,_,_,_ =>.fail
 |.makeMap t none=>match Γ.ty t with
  |some (.mapT k v)=>if k.scal&&v.scal&&Γ.maps then .alloc ⟨t,.mapT k v,[],[],true⟩else .fail
  |_ =>.fail
 | .lookup t x i false=>match σ.opd x with
  | some (.mapp b)=>match σ.box b with
   | some ⟨t',.mapT k v,l,_,true⟩=>if t=t'∧Γ.ty t=some (.mapT k v)∧k.scal=true∧v.scal=true then match AVal.get (σ.opd i) k with
     |some j =>.val (.data v (wK k v l j) [])
     |none =>.fail
    else .fail
   |_ =>.fail
  |_ =>.fail
 | .mapUpdate t x i y=>match σ.opd x with
  | some (.mapp b)=>match σ.box b with
   | some ⟨t',.mapT k v,l,_,true⟩=>if t=t'∧Γ.ty t=some (.mapT k v)∧k.scal=true∧v.scal=true∧Γ.maps=true then match AVal.get (σ.opd i) k,AVal.get (σ.opd y) v with
     |some j,some z =>.store b ⟨t',.mapT k v,ZP k v l j z,[],true⟩
     |_,_ =>.fail
    else .fail
   |_ =>.fail
  |_ =>.fail
 | .makeFunc (.func g) fs caps=>if fs.size=0 then match D5 σ caps.toList with
   |some l =>.val (.clo g l)
   |none =>.fail
  else .fail
 | .call c=>match c.callee with
  | .value (.func f)=>match Γ.iters f with
   | some I=>match o.guard,c.args.toList with
    |none,[x,y]=>match AVal.get (σ.opd x) .str,AVal.get (σ.opd y) .str with
     |some s,some Yr =>.newIter I.e (I.F Yr) s
     |_,_ =>.fail
    |_,_ =>.fail
   | none=>match Γ.sig f with
    | some s=>match KF σ (St.arg Γ σ) s.ats c.args.toList with
     | some xs=>if(o.guard.isNone||Γ.gown)&&Γ.owns f then match Γ.ty o.type with
       |some (.slice e) =>.newOwn e (s.listRun e xs)
       |_ =>.fail
      else if o.guard.isNone&&Γ.news f && !(o.dst.any Γ.own)then match Γ.ty o.type with
       |some (.slice e) =>.newRow o.type e (s.listRun e xs)
       |_ =>.fail
      else .call s xs
     |none =>.fail
    |none =>.fail
  | .value x=>match σ.opd x,c.args.toList with
   |some (.data (.fn a r) φ _),[y]=>match AVal.get (σ.opd y) a with
    |some v =>.dyn a r φ v
    |none =>.fail
   | some (.clo g caps),ys=>match Γ.sig g,GK caps with
    |some s,some cs=>match YW σ (St.arg Γ σ) s.ats ys cs with
     |some xs =>.call s xs
     |none =>.fail
    |_,_ =>.fail
   |_,_ =>.fail
  | .builtin .len=>match c.args.toList,c.argTypes.toList with
   | [x],[T]=>match σ.opd x,Γ.ty T with
    |some (.data (.slice _) l _),some (.slice _) =>.val (.data (.int .i64) (l.length:Int) [])
    |some (.data .str s _),some .str =>.val (.data (.int .i64) (s.size:Int) [])
    |some (.rowp b),some (.slice _)=>match σ.box b with
     |some ⟨_,.slice _,l,_,true⟩ =>.val (.data (.int .i64) (l.length:Int) [])
     |_ =>.fail
    |some (.mapp b),some (.mapT _ _)=>match σ.box b with
     |some ⟨_,.mapT _ _,l,_,true⟩ =>.val (.data (.int .i64) (l.length:Int) [])
     |_ =>.fail
    |_,_ =>.fail
   |_,_ =>.fail
  | .builtin .max=>match c.args.toList with
   |[x,y]=>match σ.opd x,σ.opd y with
    |some (.data (.int k) a _),some (.data (.int j) b _)=>if k=j then .val (.data (.int k) (Kn a b) [])else .fail
    |_,_ =>.fail
   |_ =>.fail
  | .builtin .min=>match c.args.toList with
   |[x,y]=>match σ.opd x,σ.opd y with
    |some (.data (.int k) a _),some (.data (.int j) b _)=>if k=j then .val (.data (.int k) (dK a b) [])else .fail
    |_,_ =>.fail
   |_ =>.fail
  | .builtin .append=>match c.args.toList,c.argTypes.toList with
   | [x,y],[T,U]=>match σ.opd x,σ.opd y with
    | some (.data (.slice e) l ow),some (.data (.slice e') m _)=>if Γ.ty T=some (.slice e)∧T=U∧e.plain=true∧0<e.size then match Z8 (.slice e') (.slice e) m,GG ow with
      |some m,some src =>.app e l m src
      |_,_ =>.fail
     else .fail
    |_,_ =>.fail
   |_,_ =>.fail
  |_ =>.fail
 |_ =>.fail
def Box.ptr(B:Box)(d:Nat):AVal:=match B.rows with
 |true =>.mapp d
 |false =>.bptr d []
def Eff.runK(d:Option Nat)(σ:St){A:Type}(k:St→Option A):Eff→Option A
 |.fail=>none
 |.val v=>k (σ.set d v)
 |.chk c v=>Lift.chk c (k (σ.set d v))
 |.cat a b=>(Lift.cat a b).bind fun r=>k (σ.set d (.data .str r []))
 |.bytes a=>k (σ.set d (.data (.slice (.int .u8)) (Zj a) []))
 |.call s x=>(s.run x).bind fun r=>k (σ.set d (AVal.res s.rts r))
 | .newRow tid e y=>match d with
  |some d=>match σ.box d,σ.tok d with
   |none,false=>y.bind fun l=>k {σ with env:=vH σ.env d (some (.rowp d)),box:=vH σ.box d (some ⟨tid,.slice e,l,[],true⟩)}
   |_,_=>none
  |none=>none
 | .newOwn e y=>match d with
  |some d=>match σ.box d,σ.tok d with
   |none,false=>y.bind fun l=>k {σ with env:=vH σ.env d (some (.data (.slice e) l [([],some d)])),tok:=vH σ.tok d true}
   |_,_=>none
  |none=>none
 | .newIter e F x=>match d with
  |some d=>match σ.box d,σ.tok d with
   |none,false=>k {σ with env:=vH σ.env d (some (.iter d e F)),box:=vH σ.box d (some ⟨0,.str,x,[],false⟩)}
   |_,_=>none
  |none=>none
 |.dyn _ r φ x=>(φ x).bind fun v=>k (σ.set d (.data r v []))
 | .alloc B=>match d with
  |some d=>match σ.box d,σ.tok d with
   |none,false=>k {σ with env:=vH σ.env d (some (B.ptr d)),box:=vH σ.box d (some B)}
   |_,_=>none
  |none=>none
 |.store b B=>k {(σ.unset d)with box:=vH σ.box b (some B),dirty:=vH σ.dirty b true}
 | .fresh c e l=>match d with
  |some d=>match σ.box d,σ.tok d with
   |none,false=>Lift.chk c (k {σ with env:=vH σ.env d (some (.data (.slice e) l [([],some d)])),tok:=vH σ.tok d true})
   |_,_=>none
  |none=>none
 | .row c tid e l=>match d with
  |some d=>match σ.box d,σ.tok d with
   |none,false=>Lift.chk c (k {σ with env:=vH σ.env d (some (.rowp d)),box:=vH σ.box d (some ⟨tid,.slice e,l,[],true⟩)})
   |_,_=>none
  |none=>none
 | .app e l m src=>match d with
  |some d=>let τ:=σ.lose src
   match τ.box d,τ.tok d with
   |none,false=>(Lift.app l m).bind fun r=>k {τ with env:=vH τ.env d (some (.data (.slice e) r [([],some d)])),tok:=vH τ.tok d true}
   |_,_=>none
  |none=>none
def SD(o:Oper)(σ:St){A:Type}(k:St→Option A):Option A:=(jK Γ o σ).runK o.dst σ k
def db(o:Oper):Bool:=
 match o.op with
 |.move _ |.assign _ |.unOp .. |.fieldAddr .. |.load .. |.field .. |.extract .. |.convert .. |.pick .. => true
 |.binOp op .. => match op with |.quo |.rem |.shl |.shr |.add=>false|_=>true
 |.call {callee :=.builtin .len,..} |.call {callee :=.builtin .max,..} |.call {callee :=.builtin .min,..}=>true
 |_=>false
def WX(o:Oper):Bool:=
 match o.op with
 |.move _ |.assign _ |.unOp .. |.fieldAddr .. |.load .. |.field .. |.extract .. |.convert .. |.pick .. |.binOp .. |.indexAddr .. |.index .. |.build .. |.slice .. => true
 |.buildSlice .. => o.guard.isSome
 |.call c=>match c.callee with
  |.builtin .len |.builtin .max |.builtin .min=>true
  |.value _=>o.guard.isSome
  |_=>false
 |_=>false
def St.forget1(σ:St)(o:Oper):St:=
 match o.op,o.dst with
 |.buildSlice ..,some d=>{(σ.unset (some d))with tok:=vH σ.tok d true}
 |_,d=>σ.unset d
def St.forget(σ:St)(l:List Oper):St:=l.foldl St.forget1 σ
def St.forgetOk(σ:St)(l:List Oper):Bool:=l.all fun o=>match o.op,o.dst with
 |.buildSlice ..,some d=>(σ.box d).isNone
 |_,_=>true
def sX:Operand→Bool→Bool
 |.const (.bool b),c=>b==c
 |_,_=>false
inductive Foot where
 |quiet|rd (b:Nat)|wr (b:Nat)|mono|app (k:Option Nat)|idle|other
def jG(o:Oper)(σ:St):Foot:=
 match o.op with
 |.move _ |.assign _ |.pick .. |.binOp .. |.unOp .. |.convert .. |.fieldAddr .. |.build .. |.index .. |.field .. |.extract .. |.slice .. |.makeFunc .. |.nilCheck _ =>.quiet
 |.load _ x=>match σ.opd x with
  |some (.bptr b _) =>.rd b
  |some (.data ..) =>.quiet
  |_ =>.other
 |.indexAddr _ x _=>match σ.opd x with
  |some (.bptr b _) =>.rd b
  |some (.rowp b) =>.rd b
  |some (.data ..) =>.quiet
  |_ =>.other
 |.store _ x _=>match σ.opd x with
  |some (.bptr b _) =>.wr b
  |_ =>.other
 |.lookup _ x _ _=>match σ.opd x with
  |some (.mapp b) =>.rd b
  |_ =>.other
 |.mapUpdate _ x _ _=>match σ.opd x with
  |some (.mapp b) =>.wr b
  |_ =>.other
 |.alloc _ |.box .. |.buildSlice .. |.makeMap .. =>.mono
 | .call c=>match c.callee with
  |.value _ =>.mono
  | .builtin .len=>match c.args.toList with
   |[x]=>match σ.opd x with
    |some (.rowp b) =>.rd b
    |some (.mapp b) =>.rd b
    |_ =>.quiet
   |_ =>.other
  |.builtin .max |.builtin .min =>.quiet
  | .builtin .append=>match c.args.toList with
   | [x,_]=>match σ.opd x with
    |some (.data _ _ ow)=>match GG ow with
     |some s =>.app s
     |none =>.other
    |some .undef =>.idle
    |_ =>.other
   |_ =>.other
  |_ =>.other
 |_ =>.other
abbrev QD:=List (Nat×Foot)
def Vr(all:List Oper)(j:Nat):Option Nat:=(all[j]?).bind (·.dst)
def l3(g0:Option (Nat×Bool))(i:Nat):Nat→List Oper→Bool
 |_,[]=>true
 |p,o::r=>(decide (o.guard=g0)||(match o.guard with
  |some (j,_)=>Nat.ble i j&&Nat.blt j p
  |none=>false))&&o.dst.isSome&&l3 g0 i (p+1) r
def F9(g:Option (Nat×Bool))(l:List Oper):List Oper:=l.takeWhile fun o=>decide (o.guard≠g)
def sA(g:Option (Nat×Bool))(l:List Oper):List Oper:=l.dropWhile fun o=>decide (o.guard≠g)
def Pw(all:List Oper)(g:Option (Nat×Bool))(i:Nat)(o pk:Oper)(Z7:List Oper)(w:Bool):Option (Operand×Operand):=
 match pk.op,o.guard with
 |.pick c a b,some (j,_)=>if Nat.blt j i&&Z7.all WX&&sX (if w then b else a) (!w)&&decide (pk.guard=g)&&(match c with |.tmp s=>decide (Vr all j=some s)|_=>false)&&l3 o.guard i i Z7 then some (c,if w then a else b)else none
 |_,_=>none
def YD(all:List Oper):Nat→Option (Nat×Bool)→Nat→List Oper→St→QD→{A:Type}→(St→QD→Option A)→Option A
 |0,_,_,_,_,_,_,_=>none
 |_+1,_,_,[],σ,lg,_,k=>k σ lg
 |n + 1,g,i,o::rest,σ,lg,_,k=>
  if o.guard=g then SD Γ o σ (fun σ'=>YD all n g (i+1) rest σ' ((i,jG o σ)::lg) k)
  else match sA g (o::rest),o.guard with
   |pk :: Q8,some (_,w)=>
    match Pw all g i o pk (F9 g (o::rest)) w with
    |some (c,x)=>
     match σ.bool c with
     |some gv=>
      if !σ.forgetOk (F9 g (o::rest))then none
      else if(F9 g (o::rest)).all db then
       match YD all n o.guard i (F9 g (o::rest)) σ [] (fun σ' _=>σ'.bool x)with
       |some e=>YD all n g (i+(F9 g (o::rest)).length+1) Q8 ((σ.forget (F9 g (o::rest))).set pk.dst (.data .bool (if w then gv&&e else gv||e) [])) lg k
       |none=>none
      else
       (bif gv then(if w then YD all n o.guard i (F9 g (o::rest)) σ [] (fun σ' _=>σ'.bool x)else some true)
        else(if w then some false else YD all n o.guard i (F9 g (o::rest)) σ [] (fun σ' _=>σ'.bool x))).bind fun v=>
         YD all n g (i+(F9 g (o::rest)).length+1) Q8 ((σ.forget (F9 g (o::rest))).set pk.dst (.data .bool v [])) lg k
     |none=>none
    |none=>none
   |_,_=>none
end
structure It where
 isBox:Bool
 id:Nat
 tid:TypeId
 t:Ty
 own:Own
 rows:Bool
structure Desc where
 its:List It
 kb:List Nat
@[reducible] def Desc.den (L:Desc):Type:=vx (L.its.map (·.t))
def lO(h:Own):Own→Option (List Nat)
 |[]=>some []
 |(p,s)::r=>match h.find? (fun(q,_)=>match WH p q with|some []=>true|_=>false),lO h r with
  |some (_,none),some l=>some l
  |some (_,some j),some l=>if s.isSome then some (j::l)else none
  |_,_=>none
def D2(σ:St)(i:It):Option i.t.den:=
 match i.isBox with
 |false=>match σ.env i.id with
  |some (.data u x _)=>Z8 u i.t x
  |_=>none
 |true=>match σ.box i.id with
  |some B=>if B.rows=i.rows∧B.tid=i.tid then Z8 B.t i.t B.x else none
  |none=>none
def Fq(σ:St)(i:It):Own:=
 match i.isBox with
 |false=>match σ.env i.id with
  |some (.data _ _ o)=>o
  |_=>[]
 |true=>match σ.box i.id with
  |some B=>B.own
  |none=>[]
def JV(σ:St):List It→Option (List Nat)
 |[]=>some []
 |i::r=>match lO (Fq σ i) i.own,JV σ r with
  |some l,some m=>some (l++m)
  |_,_=>none
def grab(σ:St):(l:List It)→Option (vx (l.map (·.t)))
 |[]=>some ()
 |[i]=>D2 σ i
 |i::j::r=>match D2 σ i,grab σ (j::r)with
  |some v,some w=>some (v,w)
  |_,_=>none
def Y3(σ:St)(i:It)(x:i.t.den):St:=
 match i.isBox with
 |false=>{σ with env:=vH σ.env i.id (some (.data i.t x i.own))}
 |true=>{σ with box:=vH σ.box i.id (some ⟨i.tid,i.t,x,i.own,i.rows⟩)}
def put(σ:St):(l:List It)→vx (l.map (·.t))→St
 |[],_=>σ
 |[i],x=>Y3 σ i x
 |i::j::r,x=>put (Y3 σ i x.1) (j::r) x.2
def nodupB:List Nat→Bool
 |[]=>true
 |a::r => !(r.any fun b=>Nat.beq b a)&&nodupB r
def PI(σ:St)(l:List It)(kb:List Nat):Bool:=match JV σ l with
 |some m=>nodupB (m++kb)
 |none=>false
def Desc.grab0(L:Desc)(σ:St):Option L.den:=if PI σ L.its L.kb then Lift.grab σ L.its else none
def Desc.grab(L:Desc)(σ:St):Option L.den:=if L.kb.all (fun b => !σ.dirty b)then L.grab0 σ else none
def lL:Nat:=1000000000
def writes:Code→List Nat
 |.region _ jA _=>jA.toList.filterMap (·.dst)
 |.seq a b |.cond _ a b=>writes a++writes b
 |.block _ c |.loop c |.scope c=>writes c
 |.rangeFunc _ ps a b=>ps.toList++writes a++writes b++[lL]
 |_=>[]
def Desc.hasBox(L:Desc)(b:Nat):Bool:=L.kb.any (fun i=>Nat.beq i b)||L.its.any (fun x=>x.isBox&&Nat.beq x.id b)
def Desc.keeps(L:Desc)(k:Nat):Bool:=L.kb.any fun i=>Nat.beq i k
def Own.keep(L:Desc)(o:Own):Own:=o.filter fun(_,s)=>match s with
 |none=>true
 |some k=>L.keeps k
def D3(L:Desc):AVal→Option AVal
 |.data t x o=>some (.data t x (Own.keep L o))
 |.bptr b p=>if L.hasBox b then some (.bptr b p)else none
 |.rowp b=>if L.hasBox b then some (.rowp b)else none
 |.mapp b=>if L.hasBox b then some (.mapp b)else none
 |.tup ts x=>some (.tup ts x)
 |.clo .. => none
 |.undef=>none
 |.raw _=>none
 |.iter b e F=>if L.hasBox b then some (.iter b e F)else none
def ZA(l:List It):List Nat:=l.flatMap fun x=>x.own.filterMap (·.2)
def St.base(σ:St)(L:Desc)(ws:List Nat):St:=
  { env:=fun s=>if ws.any (fun i=>Nat.beq i s)then none else match σ.env s with|some v=>D3 L v|none=>none,
    box:=fun b=>if L.keeps b then(σ.box b).map fun B=>{B with own:=Own.keep L B.own} else none,
    tok:=fun k=>(L.keeps k&&σ.tok k)||(ZA L.its).any (fun i=>Nat.beq i k),
    dirty:=fun _=>false}
def Desc.ok(L:Desc)(σ:St)(ws:List Nat):Bool:=
 (L.kb.all fun b => !(ws.any fun i=>Nat.beq i b))&&
 (L.its.all fun x=>bif x.isBox then !(ws.any fun i=>Nat.beq i x.id)&&(match σ.box x.id with|some B=>decide (B.t=x.t)&&(B.rows==x.rows)|none=>false)else true)&&
 nodupB (ZA L.its++(L.its.filter (·.isBox)).map (·.id)++L.kb)&&nodupB ((L.its.filter (!·.isBox)).map (·.id))
def Desc.put(L:Desc)(σ:St)(ws:List Nat)(x:L.den):St:=Lift.put (σ.base L ws) L.its x
def St.back(τ σ:St)(L:Desc):St:={τ with dirty:=fun b=>σ.dirty b || !L.keeps b}
def St.soil(τ:St)(d:Nat→Bool):St:={τ with dirty:=fun b=>d b||τ.dirty b}
def Desc.gone(L:Desc)(b:Nat):Bool := !L.keeps b
inductive Ann where
 |nil
 |seq (a b:Ann)
 |cond (a b:Ann)
 |join (L:Desc) (a b:Ann)
 |joinD (L:Desc) (a b:Ann)
 |blk (a:Ann)
 |loopB (L B:Desc) (id:Nat) (a:Ann)
 |loopBD (L B:Desc) (id:Nat) (a:Ann)
 |loopD (L:Desc) (a:Ann)
 |frz (b:Nat) (n:Ann)
def Ann.l:Ann→Ann
 |.seq a _ |.cond a _ |.join _ a _ |.joinD _ a _ |.blk a=>a
 |_ =>.nil
def Ann.r:Ann→Ann
 |.seq _ b |.cond _ b |.join _ _ b |.joinD _ _ b=>b
 |_ =>.nil
inductive Ex where
 |normal|exit (id:Nat)|ret
def Ky(b:Nat)(B:Box):AVal→Option AVal
 | .bptr c p=>if c=b then match B.t.atP p with
   |some u=>match Qv B.t B.x p u with
    |some y=>some (.data (.ptr u) y [])
    |none=>none
   |none=>none
  else some (.bptr c p)
 | .rowp c=>if c=b then(match B with
   |⟨_,.slice e,l,_,true⟩=>some (.data (.slice e) l [])
   |_=>none)
  else some (.rowp c)
 | .clo g caps=>some (.clo g (caps.map fun c=>match c with
   |.inl i=>if i=b then .inr ⟨B.t,B.x⟩else .inl i
   |.inr d =>.inr d))
 |.iter c e F=>if c=b then none else some (.iter c e F)
 |v=>some v
def Box.isMap(B:Box):Bool:=match B.rows,B.t with
 |true,.mapT .. => true
 |_,_=>false
def St.freeze(σ:St)(b:Nat):Option St:=
 match σ.box b with
 |some B=>bif B.isMap then none else some {σ with env:=fun s=>match σ.env s with|some v=>Ky b B v|none=>none,box:=vH σ.box b none,dirty:=vH σ.dirty b true}
 |none=>none
def Ann.thaw:Ann→St→Option St
 |.frz b n,σ=>match σ.freeze b with
  |some σ=>n.thaw σ
  |none=>none
 |_,σ=>some σ
def V6{S R:Type}(f:S→Option (S⊕R)):Nat→S→Option R
 |0,_=>none
 |n+1,s=>match f s with
  |some (.inl s')=>V6 f n s'
  |some (.inr r)=>some r
  |none=>none
open Classical in
def vz{S R:Type}(f:S→Option (S⊕R))(s:S):Option R:=
 if h:∃n r,V6 f n s=some r then some (Classical.choose (yu h))else none
section
variable (Γ:QW)
def cQ:Operand→Option Nat
 |.tmp t=>some t
 |_=>none
def reads(jA:List Oper)(o:Oper):List Nat:=
 o.op.operands.toList.filterMap cQ++(match o.guard with
  |some (j,_)=>((jA[j]?).bind (·.dst)).toList
  |none=>[])
def CZ(a b:List Nat):Bool := !(a.any fun i=>b.any fun j=>Nat.beq i j)
def YV:QD→Nat→Foot
 |[],_ =>.other
 |(j,f)::r,i=>bif Nat.beq j i then f else YV r i
def J2:Foot→Foot→Bool
 |.other,_|_,.other |.app _,_|_,.app _ |.idle,_|_,.idle=>false
 |.wr b,.rd c |.rd b,.wr c |.wr b,.wr c => !Nat.beq b c
 |_,_=>true
def calm(o:Oper):Bool:=
 match o.op with
 |.store .. |.mapUpdate .. => false
 |.call c=>match c.callee with
  |.builtin .append=>false
  |_=>true
 |.makeSlice .. => false
 |_=>true
def gn(jA:List Oper)(lg:QD)(i j:Nat)(a b:Oper):Bool:=
 CZ (a.dst.toList) (reads jA b++b.dst.toList)&&CZ (b.dst.toList) (reads jA a)&&((calm a&&calm b)||J2 (YV lg i) (YV lg j))
def cu(o:Oper):Bool:=
 match o.op with
 |.call c=>match c.callee with
  |.builtin .append=>true
  |_=>false
 |_=>false
def Foot.readsB:Foot→Bool
 |.quiet=>true
 |.rd _=>true
 |_=>false
def Foot.quietB:Foot→Bool
 |.quiet=>true
 |_=>false
def KX(o:Oper)(f:Foot):Bool:=
 match o.op with
 |.move (.tmp _) |.buildSlice .. |.fieldAddr .. |.slice .. => true
 |.load .. => f.readsB
 |.indexAddr .. => f.quietB
 |.binOp .add _ _ _ _=>true
 |_=>false
def Tj(a b:Oper):Bool:=match a.guard,b.guard with
 |none,none=>true
 |some (i,x),some (j,y)=>Nat.beq i j&&(x==y)
 |_,_=>false
def D4(o:Oper)(f:Foot):Bool:=
 match o.op with
 |.move (.tmp _)=>true
 |.load .. => f.quietB
 |_=>false
def nZ(jA:List Oper)(lg:QD)(i j:Nat)(a b:Oper):Bool:=
 cu a&&Tj a b&&KX b (YV lg j)&&CZ (a.dst.toList) (reads jA b++b.dst.toList)&&CZ (b.dst.toList) (reads jA a)&&
  (match YV lg i with
  |.app s => !((b.dst.toList).any fun d=>s==some d)
  |.idle=>true
  |_=>false)
def n6(jA:List Oper)(lg:QD)(i:Nat)(a b:Oper):Bool:=
 cu b&&Tj a b&&D4 a (YV lg i)&&CZ (a.dst.toList) (reads jA b++b.dst.toList)&&CZ (b.dst.toList) (reads jA a)
def apart(jA:List Oper)(lg:QD)(i j:Nat)(a b:Oper):Bool:=gn jA lg i j a b||nZ jA lg i j a b||n6 jA lg i a b
def WY(e:Edge):Bool:=match e.ground with
 |.textOnly _ |.gcOnly _=>false
 |_=>true
def WF:List Oper→List Nat→List Nat
 |[],acc=>acc
 |o::r,acc=>WF r (acc++[o.after.toList.foldl (fun s e=>if WY e then s ||| 2 ^ e.on ||| acc.getD e.on 0 else s) 0])
def tn(jA:List Oper)(lg:QD)(i:Nat)(a:Oper):Nat→List Nat→List Oper→Bool
 |j,m::ms,b::r=>(m.testBit i||apart jA lg i j a b)&&tn jA lg i a (j+1) ms r
 |_,_,_=>true
def im(jA:List Oper)(lg:QD):Nat→List Nat→List Oper→Bool
 |i,_::ms,a::r=>tn jA lg i a (i+1) ms r&&im jA lg (i+1) ms r
 |_,_,_=>true
def QE(jA:List Oper):List Nat:=jA.filterMap (·.dst)
def s8(nt:Nat)(jA:List Oper):Bool:=nodupB (QE jA)&&(QE jA).all fun d=>Nat.blt d nt
def okB(nt:Nat):Code→Bool
 |.region _ jA _=>s8 nt jA.toList
 |.seq a b |.cond _ a b=>okB nt a&&okB nt b
 |.block _ c |.loop c=>okB nt c
 |.rangeFunc _ ps as c=>okB nt as&&okB nt c&&ps.toList.all fun d=>Nat.blt d nt
 |_=>true
def Ad:Nat→List Oper→Bool
 |_,[]=>true
 |i,o::r=>(o.after.toList.all fun e => !WY e||Nat.blt e.on i)&&Ad (i+1) r
def GI(jA:List Oper)(lg:QD):Bool:=Ad 0 jA&&im jA lg 0 (WF jA []) jA
def Vm{X S R:Type}(f:X→S→Option (S⊕R)):List X→S→Option (S⊕R)
 |[],s=>some (.inl s)
 |x::l,s=>(f x s).bind fun j=>match j with
  |.inl s'=>Vm f l s'
  |.inr r=>some (.inr r)
def sB{X S R:Type}(f:X→S→Option (S⊕R))(l:List X)(s:S):Prop:=
 ∀(pre:List X) (x:X) (s':S),pre.length<l.length→(∀y,y∈pre→y∈l)→x∈l→Vm f pre s=some (.inl s')→∃j,f x s'=some j
open Classical in
def B6{X S R:Type}(f:X→S→Option (S⊕R))(l:List X)(s:S):Option (S⊕R):=if sB f l s then Vm f l s else none
def Va(σ:St)(g:Operand)(ps:Array Tmp):Option ((e:Ty)×List e.den×Nat):=
 match g,ps.toList with
 |.tmp q,[p]=>match σ.env q with
  |some (.data (.seq e) xs _)=>some ⟨e,xs,p⟩
  |_=>none
 |_,_=>none
def sN(σ:St)(g:Operand)(ps:Array Tmp)(assign:Code):Option (Nat×((e:Ty)×Option (List e.den)×Nat×Nat)):=
 match g,ps.toList,assign with
 | .tmp q,[p],.region _ jA false=>match jA.toList with
  | [o]=>match o.dst,o.op,o.guard with
   | some t,.assign (.tmp p'),none=>if Nat.beq p p' && !Nat.beq t p then match σ.env q with
     |some (.iter b e F)=>match σ.box b with
      |some ⟨_,.str,s,_,false⟩=>if e.scal then some (b,⟨e,F s,p,t⟩)else none
      |_=>none
     |_=>none
    else none
   |_,_,_=>none
  |_=>none
 |_,_,_=>none
def V9:Code→Bool
 |.seq a b |.cond _ a b=>V9 a&&V9 b
 |.block _ c |.loop c |.scope c=>V9 c
 |.rangeFunc .. => false
 |_=>true
def St.setD(σ:St)(s:Nat)(t:Ty)(x:t.den):St:={σ with env:=vH σ.env s (some (.data t x []))}
def St.clear(σ:St)(ws:List Nat):St:={σ with env:=fun s=>if ws.any (fun i=>Nat.beq i s)then none else σ.env s}
def Desc.boxy(L:Desc):Bool:=L.its.all (·.isBox)
def Desc.free(L:Desc)(ws:List Nat)(b:Nat):Bool := !(ws.any fun i=>Nat.beq i b) && !(L.kb.any fun i=>Nat.beq i b) && !((ZA L.its).any fun i=>Nat.beq i b) && !(((L.its.filter (·.isBox)).map (·.id)).any fun i=>Nat.beq i b)
def vY:Code→Ann→St→{A:Type}→(Ex→St→Option A)→Option A
 |.skip,_,σ,_,K=>K .normal σ
 |.region _ jA d,n,σ,_,K=>match n.thaw σ with
  |some σ=>bif Γ.gown then none else YD Γ jA.toList (jA.size+1) none 0 jA.toList σ [] (fun σ' lg=>if d && !GI jA.toList lg then none else K .normal σ')
  |none=>none
 |.seq a b,n,σ,_,K=>vY a n.l σ (fun e σ'=>match e with
  |.normal=>vY b n.r σ' K
  |e=>K e σ')
 | .cond c a b,n,σ,A,K=>match σ.bool c with
  |none=>none
  |some g=>match n with
   | .join L m m'=>if L.ok σ (writes a++writes b)then(bif g then vY a m {σ with dirty:=fun _=>false} (A:=L.den) (fun e σ'=>match e with | .normal=>L.grab σ'|_=>none)
     else vY b m' {σ with dirty:=fun _=>false} (A:=L.den) (fun e σ'=>match e with |.normal=>L.grab σ'|_=>none)).bind fun s=>K .normal ((L.put σ (writes a++writes b) s).back σ L)else none
   | .joinD L m m'=>if L.ok σ (writes a++writes b)then(bif g then vY a m {σ with dirty:=fun _=>false} (A:=L.den⊕A) (fun e σ'=>match e with | .normal=>(L.grab σ').map .inl|e=>(K e (σ'.soil σ.dirty)).map .inr)
     else vY b m' {σ with dirty:=fun _=>false} (A:=L.den⊕A) (fun e σ'=>match e with |.normal=>(L.grab σ').map .inl|e=>(K e (σ'.soil σ.dirty)).map .inr)).bind fun s=>match s with
      |.inl s=>K .normal ((L.put σ (writes a++writes b) s).back σ L)
      |.inr r=>some r
     else none
   |n=>bif g then vY a n.l σ K else vY b n.r σ K
 |.block id c,n,σ,_,K=>vY c n.l σ (fun e σ'=>match e with
  |.exit i=>if i=id then K .normal σ' else K (.exit i) σ'
  |e=>K e σ')
 | .loop c,n,σ,A,K=>match n with
  |.loopB L B id a=>if L.ok σ (writes c)&&B.ok σ (writes c)then match L.grab0 σ with
   |none=>none
   | some s0=>(vz (fun(s:L.den)=>vY c a (L.put σ (writes c) s) (A:=L.den⊕B.den) (fun e σ'=>match e with
     |.normal=>(L.grab σ').map .inl
     |.exit i=>if i=id then(B.grab (σ'.soil L.gone)).map .inr else none
     |.ret=>none)) s0).bind fun b=>K (.exit id) ((B.put σ (writes c) b).back σ B)
   else none
  |.loopBD L B id a=>if L.ok σ (writes c)&&B.ok σ (writes c)then match L.grab0 σ with
   |none=>none
   | some s0=>(vz (fun(s:L.den)=>vY c a (L.put σ (writes c) s) (A:=L.den⊕(B.den⊕A)) (fun e σ'=>match e with
     |.normal=>(L.grab σ').map .inl
     |.exit i=>if i=id then(B.grab (σ'.soil L.gone)).map fun b =>.inr (.inl b)else(K (.exit i) (σ'.soil fun b=>σ.dirty b||L.gone b)).map fun a =>.inr (.inr a)
     |.ret=>(K .ret (σ'.soil fun b=>σ.dirty b||L.gone b)).map fun a =>.inr (.inr a))) s0).bind fun b=>match b with
      |.inl b=>K (.exit id) ((B.put σ (writes c) b).back σ B)
      |.inr r=>some r
   else none
  |.loopD L a=>if L.ok σ (writes c)then match L.grab0 σ with
   |none=>none
   | some s0=>vz (fun(s:L.den)=>vY c a (L.put σ (writes c) s) (A:=L.den⊕A) (fun e σ'=>match e with
     |.normal=>(L.grab σ').map .inl
     |e=>(K e (σ'.soil fun b=>σ.dirty b||L.gone b)).map fun a =>.inr a)) s0
   else none
  |_=>none
 | .rangeFunc g ps as c,n,σ,A,K=>match n with
  | .loopD L a=>match Va σ g ps with
   | none=>match sN σ g ps as with
    |none=>none
    |some (b,⟨e,xs,_,t⟩)=>if L.ok σ (writes (.rangeFunc g ps as c))&&(L.boxy&&(V9 c && !Γ.maps))&&L.free (writes (.rangeFunc g ps as c)) b then match L.grab0 σ with
     |none=>none
     | some s0=>xs.bind fun xs=>(B6 (fun(x:e.den) (s:L.den)=>vY c a ((L.put σ (writes (.rangeFunc g ps as c)) s).setD t e x) (A:=L.den⊕A) (fun ex σ'=>if σ'.dirty b||σ'.tok b then none else match ex with
       |.normal=>(L.grab (σ'.clear (writes (.rangeFunc g ps as c)))).map .inl
       |ex=>(K ex ((σ'.clear (writes (.rangeFunc g ps as c))).soil fun b=>σ.dirty b||L.gone b)).map .inr)) xs s0).bind fun j=>match j with
        |.inl s=>K .normal ((L.put σ (writes (.rangeFunc g ps as c)) s).soil fun b=>σ.dirty b||L.gone b)
        |.inr r=>some r
     else none
   |some ⟨e,xs,p⟩=>if L.ok σ (writes (.rangeFunc g ps as c))&&(L.boxy&&(V9 c&&V9 as && !Γ.maps))then match L.grab0 σ with
    |none=>none
    | some s0=>(B6 (fun(x:e.den) (s:L.den)=>vY as .nil ((L.put σ (writes (.rangeFunc g ps as c)) s).setD p e x) (A:=L.den⊕A) (fun ex0 σ1=>match ex0 with
      |.normal=>vY c a σ1 (A:=L.den⊕A) (fun ex σ'=>match ex with
       |.normal=>(L.grab (σ'.clear (writes (.rangeFunc g ps as c)))).map .inl
       |ex=>(K ex ((σ'.clear (writes (.rangeFunc g ps as c))).soil fun b=>σ.dirty b||L.gone b)).map .inr)
      |_=>none)) xs s0).bind fun j=>match j with
       |.inl s=>K .normal ((L.put σ (writes (.rangeFunc g ps as c)) s).soil fun b=>σ.dirty b||L.gone b)
       |.inr r=>some r
    else none
  |_=>none
 |.exit id,_,σ,_,K=>K (.exit id) σ
 |.ret,_,σ,_,K=>K .ret σ
 |_,_,_,_,_=>none
def bE:(ts:List Ty)→Nat→vx ts→Nat→Option AVal
 |[],_,_=>fun _=>none
 |[t],i,x=>vH (fun _=>none) i (some (.data t x []))
 |t::u::r,i,x=>vH (bE (u::r) (i+1) x.2) i (some (.data t x.1 []))
def mI(σ:St)(t:Ty):ResultVar→Option t.den
 |.tmp s=>AVal.get (σ.env s) t
 | .cell s T=>if Γ.ty T=some t then match σ.env s with
  |some (.bptr b [])=>match σ.box b with
   |some B=>if B.rows then none else Z8 B.t t B.x
   |none=>none
  |_=>none
  else none
def results(σ:St):(ts:List Ty)→List ResultVar→Option (vx ts)
 |[],[]=>some ()
 |[t],[r]=>mI Γ σ t r
 |t::u::ts,r::rs=>match mI Γ σ t r,results σ (u::ts) rs with
  |some v,some w=>some (v,w)
  |_,_=>none
 |_,_=>none
def jU(fn:Func)(n:Ann)(ats rts:List Ty)(x:vx ats):Option (vx rts):=
 match fn.body with
 |some c=>if okB fn.ntmps c&&Nat.ble ats.length fn.ntmps then vY Γ c n {env:=bE ats 0 x,box:=fun _=>none,tok:=fun _=>false,dirty:=fun _=>false} (fun e σ=>match e with
  |.exit _=>none
  |_=>results Γ σ rts fn.results.toList)else none
 |none=>none
end
end Go.Lift
end
