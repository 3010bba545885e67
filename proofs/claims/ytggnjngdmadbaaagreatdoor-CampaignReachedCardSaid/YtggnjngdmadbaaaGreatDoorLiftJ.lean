/-
  The tables of a program are checked.
-/
import Derived.Test.YtggnjngdmadbaaaGreatDoorLiftI
import Derived.Laws.StructEq
set_option linter.unusedSectionVars false
set_option linter.unusedVariables false
set_option linter.unusedSimpArgs false
namespace Go.Lift
open Go Go.RowKit
variable [Tab] [Mf]
variable {P:Program} {M:Mem}
def ze0(f : Field) : Bool := !(f.name == "_")
def z34(P:Program):Ty→Sum TypeId (List Field)→Bool
 |.int _,.inl _ |.bool,.inl _ |.str,.inl _=>true
 |.one t,.inl T => !P.stoodInHeld T && !P.eqGuardType P.depth T&&(match P.underlying T with
  |some (.struct fs)=>(match fs.toList with | [f]=>ze0 f&&z34 P t (.inl f.type)|_=>false)
  |_=>false)
 | .pair a b,.inl T => !P.stoodInHeld T && !P.eqGuardType P.depth T&&(match P.underlying T with
  |some (.struct fs)=>(match fs.toList with
   |f::g::[]=>ze0 f&&z34 P a (.inl f.type)&&ze0 g&&z34 P b (.inl g.type)
   |f::g::h::r=>ze0 f&&z34 P a (.inl f.type)&&z34 P b (.inr (g::h::r))
   |_=>false)
  |_=>false)
 |.pair a b,.inr (f::g::[])=>ze0 f&&z34 P a (.inl f.type)&&ze0 g&&z34 P b (.inl g.type)
 |.pair a b,.inr (f::g::h::r)=>ze0 f&&z34 P a (.inl f.type)&&z34 P b (.inr (g::h::r))
 |.arr _ e,.inl T => !P.eqGuardType P.depth T&&(match P.underlying T with
  |some (.array _ E)=>z34 P e (.inl E)
  |_=>false)
 |_,_=>false
def dep:Ty→Nat
 |.one t=>dep t+1
 |.pair a b=>max (dep a) (dep b)+1
 |.arr _ e=>dep e+1
 |_=>0
theorem zhv{T:TypeId}{fs:Array Field}(h:P.underlying T=some (.struct fs)):P.fieldsOf T=fs:=by unfold Program.fieldsOf;rw[h]
def EqV(P:Program)(M:Mem)(t:Ty)(T:TypeId):Prop:=
 ∀(x y:t.den) (u v:Value) (w:World) (d:Nat),dep t≤d→relV P t M x u→relV P t M y v→(Op.equalIn (d+1) T u v).run P w = .ok (t.eqb x y) w
theorem zqu{t:Ty}{f:Field}(hf:fits P t (.inl f.type)=true)(hb:ze0 f=true)(hV:EqV P M t f.type){x y:t.den}{cs ds:List Value}{off:Nat}(hoff:f.offset=off)
  (h1:relC P t M x ((cs.drop off).take t.size)) (h2:relC P t M y ((ds.drop off).take t.size)) (l1:off+t.size≤cs.length) (l2:off+t.size≤ds.length) {d:Nat} (hd:dep t≤d) (rest:List Field) (w:World) :
  (Op.eqFields (d+1) cs.toArray ds.toArray (f::rest)).run P w=if t.eqb x y then(Op.eqFields (d+1) cs.toArray ds.toArray rest).run P w else .ok false w:=by
 have hn : f.name ≠ "_" := by
  unfold ze0 at hb;simpa using hb
 simp only[Op.eqFields,if_pos hn,Sem.run_bind];rw[hoff,zka hf h1 l1];simp only[Result.andThen_ok];rw[zka hf h2 l2];simp only[Result.andThen_ok];rw[hV x y _ _ w d hd (z30 h1) (z30 h2)];simp only[Result.andThen_ok];cases t.eqb x y
 ·simp only[Bool.not_false,if_true,Sem.run_pure,Bool.false_eq_true,if_false]
 ·simp only[Bool.not_true,Bool.false_eq_true,if_false,if_true]
theorem ycz(d:Nat)(cs ds:Array Value)(w:World):(Op.eqFields d cs ds []).run P w = .ok true w:=by simp only[Op.eqFields,Sem.run_pure]
theorem zs2{a b:Ty}{x:a.den×b.den}{cs:List Value}{off:Nat}(h:relC P (.pair a b) M x ((cs.drop off).take (a.size+b.size)))(hl:off+(a.size+b.size)≤cs.length) :
  relC P a M x.1 ((cs.drop off).take a.size)∧relC P b M x.2 ((cs.drop (off+a.size)).take b.size):=by
 obtain⟨h1,h2⟩:=h;rw[List.take_take,Nat.min_eq_left (by omega)] at h1;rw[List.drop_take,List.drop_drop,Nat.add_sub_cancel_left] at h2;exact⟨h1,h2⟩
theorem zvm{e:Ty}{E:TypeId}(hf:fits P e (.inl E)=true)(hV:EqV P M e E){n d:Nat}(hd:dep e≤d){x y:Nat→e.den}{cs ds:List Value}(hx:relC P (.arr n e) M x cs)(hy:relC P (.arr n e) M y ds) :
  ∀(l s:Nat),s+l=n→∀(w:World),(forIn (List.range' s l) ((none,()):Option Bool×Unit) (fun i _=>do
   let r ←Op.equalIn (d+1) E (←part E cs.toArray (i*e.size)) (←part E ds.toArray (i*e.size))
   if(!r)=true then pure (ForInStep.done (some false,())) else pure (ForInStep.yield (none,())):Nat→Option Bool×Unit→Sem (ForInStep (Option Bool×Unit)))).run P w=
   .ok (if((List.range' s l).all fun i=>e.eqb (x i) (y i))=true then(none,()) else(some false,())) w
 |0,s,_,w=>by
  simp only[List.range'_zero,List.forIn_nil,Sem.run_pure,List.all_nil,if_true]
 | l+1,s,hs,w=>by
  have hlt:s < n:=by omega
  have hle:(s+1)*e.size≤n*e.size:=Nat.mul_le_mul_right _ hlt;simp only[Nat.add_mul,Nat.one_mul] at hle;have lx:=hx.1;have ly:=hy.1;simp only[List.range'_succ,List.forIn_cons,Sem.run_bind];rw[zka hf (hx.2 s hlt) (by omega)];simp only[Result.andThen_ok];rw[zka hf (hy.2 s hlt) (by omega)];simp only[Result.andThen_ok];rw[hV _ _ _ _ w d hd (z30 (hx.2 s hlt)) (z30 (hy.2 s hlt))];simp only[Result.andThen_ok,List.all_cons];rcases Bool.eq_false_or_eq_true (e.eqb (x s) (y s)) with hb|hb
  rotate_left
  ·simp only[hb,Bool.not_false,if_true,Sem.run_pure,Result.andThen_ok,Bool.false_and,Bool.false_eq_true,if_false]
  ·simp only[hb,Bool.not_true,Bool.false_eq_true,if_false,Sem.run_pure,Result.andThen_ok,Bool.true_and];exact zvm hf hV hd hx hy l (s+1) (by omega) w
theorem zt2:∀(t:Ty),(∀T,fits P t (.inl T)=true→z34 P t (.inl T)=true→EqV P M t T)∧
  (∀fs off,fits P t (.inr (fs,off))=true→z34 P t (.inr fs)=true→∀(x y:t.den) (cs ds:List Value) (w:World) (d:Nat),dep t≤d+1→relC P t M x ((cs.drop off).take t.size)→relC P t M y ((ds.drop off).take t.size)→
   off+t.size≤cs.length→off+t.size≤ds.length→(Op.eqFields (d+1) cs.toArray ds.toArray fs).run P w = .ok (t.eqb x y) w)
 |.int k=>by
  refine⟨fun T h1 _ x y u v w d _ hx hy => ?_,fun fs off h1 h2=>by simp[z34] at h2⟩;have hu:=fits_int h1;have e1:u = .int k x:=by have h:[u]=[Value.int k x]:=hx;exact List.head_eq_of_cons_eq h
  have e2:v = .int k y:=by have h:[v]=[Value.int k y]:=hy;exact List.head_eq_of_cons_eq h
  subst e1 e2;exact run_equalIn_int w d T k k x y hu
 |.bool=>by
  refine⟨fun T h1 _ x y u v w d _ hx hy => ?_,fun fs off h1 h2=>by simp[z34] at h2⟩;have hu:=fits_bool h1;have e1:u = .bool x:=by have h:[u]=[Value.bool x]:=hx;exact List.head_eq_of_cons_eq h
  have e2:v = .bool y:=by have h:[v]=[Value.bool y]:=hy;exact List.head_eq_of_cons_eq h
  subst e1 e2;exact run_equalIn_bool' w d T x y hu
 |.str=>by
  refine⟨fun T h1 _ x y u v w d _ hx hy => ?_,fun fs off h1 h2=>by simp[z34] at h2⟩;have hu:=zft h1;have e1:u = .string x:=by have h:[u]=[Value.string x]:=hx;exact List.head_eq_of_cons_eq h
  have e2:v = .string y:=by have h:[v]=[Value.string y]:=hy;exact List.head_eq_of_cons_eq h
  subst e1 e2;rw[run_equalIn_string w d T x y hu];rfl
 | .one t=>by
  refine⟨fun T h1 h2 x y u v w d hd hx hy => ?_,fun fs off h1 h2=>by simp[z34] at h2⟩;obtain⟨fs,hfs⟩:=z82 h1 (.inr (.inl ⟨t,rfl⟩));rw[z34] at h2;simp only[hfs,qg,Bool.not_eq_true'] at h2;obtain⟨⟨hst,hgd⟩,h2⟩:=h2;split at h2
  ·rename_i f hl;simp only[qg] at h2;have h1':=h1;rw[fits] at h1';split at h1'
   ·rename_i i dd hi hdd;rw[hfs] at hdd;cases hdd;simp only[qg,hl] at h1';obtain⟨_,ho,hft⟩:=h1';have ho:=qq ho;obtain⟨cs,rfl,hcx⟩:∃cs:Array Value,u = .agg cs∧relC P t M x cs.toList:=hx
    obtain⟨ds,rfl,hcy⟩:∃ds:Array Value,v = .agg ds∧relC P t M y ds.toList:=hy
    have lx:=z0u t M x _ hcx;have ly:=z0u t M y _ hcy;obtain⟨d,rfl⟩:∃d',d=d'+1:=⟨d-1,by simp only[dep] at hd;omega⟩
    rw[run_equalIn_agg w (d+1) T cs ds (by rw[zhv hfs];exact hfs) hst,zhv hfs,hl];have:=zqu (P:=P) (M:=M) hft h2.1 ((zt2 t).1 f.type hft h2.2) (x:=x) (y:=y) (cs:=cs.toList) (ds:=ds.toList) (off:=0) ho (by rw[List.drop_zero,List.take_of_length_le (by omega)];exact hcx) (by rw[List.drop_zero,List.take_of_length_le (by omega)];exact hcy) (by omega) (by omega) (d:=d) (by simp only[dep] at hd;omega) [] w;simp only[Array.toArray_toList] at this;rw[this,ycz];show _=Result.ok (t.eqb x y) w;cases t.eqb x y<;>rfl
   ·cases h1'
  ·cases h2
 | .pair a b=>by
  have fields:∀fs off,fits P (.pair a b) (.inr (fs,off))=true→z34 P (.pair a b) (.inr fs)=true→∀(x y:(Ty.pair a b).den) (cs ds:List Value) (w:World) (d:Nat),dep (.pair a b)≤d+1→relC P (.pair a b) M x ((cs.drop off).take (Ty.pair a b).size)→relC P (.pair a b) M y ((ds.drop off).take (Ty.pair a b).size)→
    off+(Ty.pair a b).size≤cs.length→off+(Ty.pair a b).size≤ds.length→(Op.eqFields (d+1) cs.toArray ds.toArray fs).run P w = .ok ((Ty.pair a b).eqb x y) w:=by
   intro fs off h1 h2 x y cs ds w d hd hx hy l1 l2;have lx:off+(a.size+b.size)≤cs.length:=l1;have ly:off+(a.size+b.size)≤ds.length:=l2;obtain⟨x1,x2⟩:=zs2 (x:=x) hx lx;obtain⟨y1,y2⟩:=zs2 (x:=y) hy ly;simp only[dep] at hd;match fs,h1,h2 with
   |[],h1,_=>simp[fits] at h1
   |[_],h1,_=>simp[fits] at h1
   |[f,g],h1,h2=>
    rw[fits.eq_2] at h1;rw[z34] at h2;simp only[qg] at h1 h2;obtain⟨⟨⟨o1,f1⟩,o2⟩,f2⟩:=h1;obtain⟨⟨⟨n1,e1⟩,n2⟩,e2⟩:=h2;have o1:=qq o1;have o2:=qq o2;rw[zqu f1 n1 ((zt2 a).1 f.type f1 e1) o1 x1 y1 (by omega) (by omega) (by omega)];rw[zqu f2 n2 ((zt2 b).1 g.type f2 e2) o2 x2 y2 (by omega) (by omega) (by omega),ycz];show _=Result.ok (a.eqb x.1 y.1&&b.eqb x.2 y.2) w;cases a.eqb x.1 y.1<;>cases b.eqb x.2 y.2<;>rfl
   |f::g::h::r,h1,h2=>
    rw[fits.eq_3] at h1;rw[z34] at h2;simp only[qg] at h1 h2;obtain⟨⟨o1,f1⟩,f2⟩:=h1;obtain⟨⟨n1,e1⟩,e2⟩:=h2;have o1:=qq o1;rw[zqu f1 n1 ((zt2 a).1 f.type f1 e1) o1 x1 y1 (by omega) (by omega) (by omega)];rw[(zt2 b).2 (g::h::r) (off+a.size) f2 e2 x.2 y.2 cs ds w d (by omega) x2 y2 (by omega) (by omega)];show _=Result.ok (a.eqb x.1 y.1&&b.eqb x.2 y.2) w;cases a.eqb x.1 y.1<;>cases b.eqb x.2 y.2<;>rfl
  refine⟨fun T h1 h2 x y u v w d hd hx hy => ?_,fields⟩;obtain⟨fs,hfs⟩:=z82 h1 (.inr (.inr ⟨a,b,rfl⟩));rw[z34] at h2;simp only[hfs,qg,Bool.not_eq_true'] at h2;obtain⟨⟨hst,hgd⟩,h2⟩:=h2;obtain⟨cs,rfl,hcx⟩:∃cs:Array Value,u = .agg cs∧relC P (.pair a b) M x cs.toList:=hx
  obtain⟨ds,rfl,hcy⟩:∃ds:Array Value,v = .agg ds∧relC P (.pair a b) M y ds.toList:=hy
  have lx:=z0u _ M x _ hcx;have ly:=z0u _ M y _ hcy;obtain⟨d,rfl⟩:∃d',d=d'+1:=⟨d-1,by simp only[dep] at hd;omega⟩
  rw[run_equalIn_agg w (d+1) T cs ds (by rw[zhv hfs];exact hfs) hst,zhv hfs];have h1':fits P (.pair a b) (.inr (fs.toList,0))=true:=by
   rw[fits] at h1;split at h1
   ·rename_i i dd hi hdd;rw[hfs] at hdd;cases hdd;simp only[qg] at h1;obtain⟨_,h1⟩:=h1;split at h1
    ·rename_i f g hl;rw[hl,fits.eq_2];simpa using h1
    ·rename_i f g h r hl;rw[hl,fits.eq_3];simpa using h1
    ·cases h1
   ·cases h1
  have h2':z34 P (.pair a b) (.inr fs.toList)=true:=by
   split at h2
   ·rename_i f g hl;rw[hl,z34];exact h2
   ·rename_i f g h r hl;rw[hl,z34];exact h2
   ·cases h2
  have:=fields fs.toList 0 h1' h2' x y cs.toList ds.toList w d (by omega) (by rw[List.drop_zero,List.take_of_length_le (by omega)];exact hcx) (by rw[List.drop_zero,List.take_of_length_le (by omega)];exact hcy) (by omega) (by omega);simpa only[Array.toArray_toList] using this
 |.unit=>⟨fun _ _ h=>by simp[z34] at h,fun _ _ _ h=>by simp[z34] at h⟩
 |.err=>⟨fun _ _ h=>by simp[z34] at h,fun _ _ _ h=>by simp[z34] at h⟩
 |.arr n e=>by
  refine⟨fun T h1 h2 x y u v w d hd hx hy => ?_,fun fs off h1 h2=>by simp[z34] at h2⟩;obtain⟨E,hE,hfE⟩:=zfu h1;rw[z34] at h2;simp only[hE,qg,Bool.not_eq_true'] at h2;obtain⟨hgd,h2⟩:=h2;obtain⟨cs,rfl,hcx⟩:∃cs:Array Value,u = .agg cs∧relC P (.arr n e) M x cs.toList:=hx
  obtain⟨ds,rfl,hcy⟩:∃ds:Array Value,v = .agg ds∧relC P (.arr n e) M y ds.toList:=hy
  obtain⟨d,rfl⟩:∃d',d=d'+1:=⟨d-1,by simp only[dep] at hd;omega⟩
  obtain⟨i,dd,hi⟩:=z0l hfE;have:=zvm hfE ((zt2 e).1 E hfE h2) (d:=d) (by simp only[dep] at hd;omega) hcx hcy n 0 (by omega) w;simp only[Array.toArray_toList] at this;rw[Op.equalIn];simp only[Sem.run_bind,run_underlying hE,Result.andThen_ok,z1q hi,Std.Legacy.Range.forIn_eq_forIn_range',Std.Legacy.Range.size,Nat.sub_zero,Nat.add_sub_cancel,Nat.div_one];rw[this];show _=Result.ok ((List.range n).all fun i=>e.eqb (x i) (y i)) w;rw[List.range_eq_range'];cases(List.range' 0 n).all fun i=>e.eqb (x i) (y i)<;>rfl
 |.slice _=>⟨fun _ _ h=>by simp[z34] at h,fun _ _ _ h=>by simp[z34] at h⟩
 |.ptr _=>⟨fun _ _ h=>by simp[z34] at h,fun _ _ _ h=>by simp[z34] at h⟩
 |.fn _ _=>⟨fun _ _ h=>by simp[z34] at h,fun _ _ _ h=>by simp[z34] at h⟩
 |.seq _=>⟨fun _ _ h=>by simp[z34] at h,fun _ _ _ h=>by simp[z34] at h⟩
 |.mapT _ _=>⟨fun _ _ h=>by simp[z34] at h,fun _ _ _ h=>by simp[z34] at h⟩
end Go.Lift
namespace Go.Lift
open Go Go.RowKit
variable [Tab] [Mf]
variable {P:Program}
def y1p:List (Nat×Ty)→Nat→Option Ty
 |[],_=>none
 |e::r,T=>bif Nat.beq e.1 T then some e.2 else y1p r T
def ybd:List (Nat×Nat)→Nat→Nat
 |[],_=>0
 |e::r,T=>bif Nat.beq e.1 T then e.2 else ybd r T
def zsy:List Sig→FuncId→Option Sig
 |[],_=>none
 |s::r,f=>bif Nat.beq s.f f then some s else zsy r f
def cxOf(tys:List (Nat×Ty))(nfs:List (Nat×Nat))(eqs:List Nat)(own:List Nat)(sigs:List Sig):Ctx:=
 ⟨y1p tys,ybd nfs,zsy sigs,fun d=>own.any fun i=>Nat.beq i d,fun T=>eqs.any fun i=>Nat.beq i T,Mf.on,fun _=>false,fun _=>false,fun _=>none,false⟩
def yeo(tys:List (Nat×Ty))(nfs:List (Nat×Nat))(eqs:List Nat)(own owns:List Nat)(sigs:List Sig):Ctx:=
 ⟨y1p tys,ybd nfs,zsy sigs,fun d=>own.any fun i=>Nat.beq i d,fun T=>eqs.any fun i=>Nat.beq i T,Mf.on,fun _=>false,fun f=>owns.any fun i=>Nat.beq i f,fun _=>none,false⟩
def y9b(tys:List (Nat×Ty))(nfs:List (Nat×Nat))(eqs:List Nat)(own owns:List Nat)(sigs:List Sig):Ctx:={yeo tys nfs eqs own owns sigs with gown:=true}
def ycs:Ty→Bool
 |.str |.one _ |.pair _ _ |.arr _ _=>true
 |_=>false
def ya5(P:Program)(tys:List (Nat×Ty)):Bool:=tys.all fun e=>fits P e.2 (.inl e.1)
def yb8(P:Program)(tys:List (Nat×Ty))(nfs:List (Nat×Nat)):Bool:=tys.all fun e=>match P.underlying e.1 with
 |some (.struct fs)=>Nat.beq (ybd nfs e.1) fs.size
 |_=>true
def ybq(P:Program)(tys:List (Nat×Ty))(eqs:List Nat):Bool:=eqs.all fun T=>match y1p tys T with
 |some t=>z34 P t (.inl T)&&ycs t&&Nat.ble (dep t) 9999
 |none=>true
theorem zns:∀ {tys:List (Nat×Ty)} {T:Nat} {t:Ty},y1p tys T=some t→(T,t)∈tys
 |[],_,_,h=>by cases h
 | e::r,T,t,h=>by
  unfold y1p at h;cases hb:Nat.beq e.1 T with
  |true=>
   rw[hb] at h;simp only[cond_true,qb] at h;have:=qq hb;subst this h;exact List.mem_cons_self
  |false=>rw[hb] at h;exact qo _ (zns h)
theorem zmk:∀ {l:List Sig} {f:FuncId} {s:Sig},zsy l f=some s→s∈l∧s.f=f
 |[],_,_,h=>by cases h
 | e::r,f,s,h=>by
  unfold zsy at h;cases hb:Nat.beq e.f f with
  |true=>
   rw[hb] at h;simp only[cond_true,qb] at h;subst h;exact⟨List.mem_cons_self,qq hb⟩
  |false=>
   rw[hb] at h;obtain⟨h1,h2⟩:=zmk h;exact⟨qo _ h1,h2⟩
theorem zvp{tys:List (Nat×Ty)}{nfs:List (Nat×Nat)}{eqs own:List Nat}{sigs:List Sig}(h1:ya5 P tys=true)(h2:yb8 P tys nfs=true)(h3:ybq P tys eqs=true)
  (h4:∀s∈sigs,Enters P s.f∧FC P s):COk P (cxOf tys nfs eqs own sigs):=by
 refine⟨fun T t ht => ?_,rfl,fun T t fs ht hu => ?_,fun f s hs => ?_,(fun _ _ h=>by cases h),(fun _ _ h=>by cases h),(fun _ _ h=>by cases h),fun T t he ht M x y u v w p q hx hy => ?_⟩
 ·exact List.all_eq_true.1 h1 _ (zns ht)
 ·have:=List.all_eq_true.1 h2 _ (zns ht);rw[hu] at this;exact qq this
 ·obtain⟨hm,hf⟩:=zmk hs;exact⟨hf,(h4 s hm).1 |> fun e=>by rw[←hf];exact e,(h4 s hm).2⟩
 ·obtain⟨T',hT',hb⟩:=List.any_eq_true.1 he;have:=qq hb;subst this;have hc:=List.all_eq_true.1 h3 T' hT';rw[show y1p tys T'=some t from ht] at hc;simp only[qg,Nat.ble_eq] at hc;obtain⟨⟨e1,e2⟩,e3⟩:=hc;have hfit:fits P t (.inl T')=true:=List.all_eq_true.1 h1 _ (zns ht);have hV:=(zt2 (P:=P) (M:=M) t).1 T' hfit e1 x y u v w 9999 e3 hx hy;cases t with
  | str=>
   have a1:u = .string x:=by have h:[u]=[Value.string x]:=hx;exact List.head_eq_of_cons_eq h
   have a2:v = .string y:=by have h:[v]=[Value.string y]:=hy;exact List.head_eq_of_cons_eq h
   subst a1 a2;constructor
   ·simp only[Sem.run_bind];rw[show(eqGuard .eql T' p q (.string x) (.string y)).run P w = .ok () w from rfl];rfl
   ·simp only[Sem.run_bind];rw[show(eqGuard .neq T' p q (.string x) (.string y)).run P w = .ok () w from rfl];rfl
  | one t'=>
   obtain⟨cs,rfl,_⟩:∃cs:Array Value,u = .agg cs∧relC P (.one t') M x cs.toList:=hx
   obtain⟨ds,rfl,_⟩:∃ds:Array Value,v = .agg ds∧relC P (.one t') M y ds.toList:=hy
   rw[z34] at e1;simp only[qg,Bool.not_eq_true'] at e1;constructor
   ·simp only[Sem.run_bind];rw[run_eqGuard_agg w .eql T' p q cs ds e1.1.2];simp only[Result.andThen_ok];rw[run_eql_struct,hV];rfl
   ·simp only[Sem.run_bind];rw[run_eqGuard_agg w .neq T' p q cs ds e1.1.2];simp only[Result.andThen_ok];rw[run_neq_struct,hV];rfl
  | pair a b=>
   obtain⟨cs,rfl,_⟩:∃cs:Array Value,u = .agg cs∧relC P (.pair a b) M x cs.toList:=hx
   obtain⟨ds,rfl,_⟩:∃ds:Array Value,v = .agg ds∧relC P (.pair a b) M y ds.toList:=hy
   rw[z34] at e1;simp only[qg,Bool.not_eq_true'] at e1;constructor
   ·simp only[Sem.run_bind];rw[run_eqGuard_agg w .eql T' p q cs ds e1.1.2];simp only[Result.andThen_ok];rw[run_eql_struct,hV];rfl
   ·simp only[Sem.run_bind];rw[run_eqGuard_agg w .neq T' p q cs ds e1.1.2];simp only[Result.andThen_ok];rw[run_neq_struct,hV];rfl
  | arr n a=>
   obtain⟨cs,rfl,_⟩:∃cs:Array Value,u = .agg cs∧relC P (.arr n a) M x cs.toList:=hx
   obtain⟨ds,rfl,_⟩:∃ds:Array Value,v = .agg ds∧relC P (.arr n a) M y ds.toList:=hy
   rw[z34] at e1;simp only[qg,Bool.not_eq_true'] at e1;constructor
   ·simp only[Sem.run_bind];rw[run_eqGuard_agg w .eql T' p q cs ds e1.1];simp only[Result.andThen_ok];rw[run_eql_struct,hV];rfl
   ·simp only[Sem.run_bind];rw[run_eqGuard_agg w .neq T' p q cs ds e1.1];simp only[Result.andThen_ok];rw[run_neq_struct,hV];rfl
  |_=>simp[ycs] at e2
theorem yer{tys:List (Nat×Ty)}{nfs:List (Nat×Nat)}{eqs own owns:List Nat}{sigs:List Sig}(h:COk P (cxOf tys nfs eqs own sigs))(hn:∀s∈sigs,(owns.any fun i=>Nat.beq i s.f)=true→FCo P s) :
  COk P (yeo tys nfs eqs own owns sigs):=
 ⟨h.ty,h.mf,h.nf,h.sig,h.news,fun f s hf hs=>by
  obtain⟨hm,e⟩:=zmk hs;exact hn s hm (by rw[e];exact hf),h.iters,h.eq⟩
theorem ybt{tys:List (Nat×Ty)}{nfs:List (Nat×Nat)}{eqs own owns:List Nat}{sigs:List Sig}(h:COk P (yeo tys nfs eqs own owns sigs)):COk P (y9b tys nfs eqs own owns sigs):=
 ⟨h.ty,h.mf,h.nf,h.sig,h.news,h.owns,h.iters,h.eq⟩
def zt3(P:Program)(f:FuncId):Bool:=match P.funcs[f]? with
 | some fn => !fn.body.isNone && !(fn.name == "runtime.NumGoroutine")
 |none=>false
theorem enters_of{f:FuncId}(h:zt3 P f=true):Enters P f:=by
 unfold zt3 at h;split at h
 ·rename_i fn hfn;simp only[qg,Bool.not_eq_true'] at h;exact⟨fn,hfn,h.1,h.2⟩
 ·cases h
def Has(P:Program)(s:Sig):Prop:=Enters P s.f∧FC P s
theorem z13(hm:P.follows .mixedOrders=true){tys:List (Nat×Ty)}{nfs:List (Nat×Nat)}{eqs own:List Nat}{sigs:List Sig}(h1:ya5 P tys=true)(h2:yb8 P tys nfs=true)(h3:ybq P tys eqs=true)
  (h4:∀s∈sigs,Has P s) {fn:Func} {n:Ann} {s:Sig} (hf:P.funcs[s.f]?=some fn) (he:zt3 P s.f=true) (hrun:∀x,funK (cxOf tys nfs eqs own sigs) fn n s.ats s.rts x=s.run x):Has P s:=
 ⟨enters_of he,y92 hm (zvp h1 h2 h3 h4) hf rfl hrun⟩
theorem yca{owns:List Nat}:∀s∈([]:List Sig),(owns.any fun i=>Nat.beq i s.f)=true→FCo P s:=fun _ h=>by cases h
theorem y07{owns:List Nat}{s:Sig}{l:List Sig}(h:(owns.any fun i=>Nat.beq i s.f)=true→FCo P s)(hl:∀s∈l,(owns.any fun i=>Nat.beq i s.f)=true→FCo P s):∀x∈s::l,(owns.any fun i=>Nat.beq i x.f)=true→FCo P x:=fun x hx=>by
 rcases List.mem_cons.1 hx with rfl|hx
 ·exact h
 ·exact hl x hx
theorem all_nil:∀s∈([]:List Sig),Has P s:=fun _ h=>by cases h
theorem all_cons{s:Sig}{l:List Sig}(h:Has P s)(hl:∀s∈l,Has P s):∀x∈s::l,Has P x:=fun x hx=>by
 rcases List.mem_cons.1 hx with rfl|hx
 ·exact h
 ·exact hl x hx
end Go.Lift
