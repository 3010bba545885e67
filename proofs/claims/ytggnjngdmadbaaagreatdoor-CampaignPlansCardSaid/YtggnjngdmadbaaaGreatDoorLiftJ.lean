/-
  The tables of a program are checked.
-/
import Derived.Test.YtggnjngdmadbaaaGreatDoorLiftI
set_option linter.all false
namespace Go.Lift
open Go Go.RowKit
variable [wB] [Mf]
variable {P:Program} {M:Mem}
def CT(f : Field) : Bool := !(f.name == "_")
def QM(P:Program):Ty→Sum TypeId (List Field)→Bool
 |.int _,.inl _ |.bool,.inl _ |.str,.inl _=>true
 |.one t,.inl T => !P.stoodInHeld T && !P.eqGuardType P.depth T&&(match P.underlying T with
  |some (.struct fs)=>(match fs.toList with | [f]=>CT f&&QM P t (.inl f.type)|_=>false)
  |_=>false)
 | .pair a b,.inl T => !P.stoodInHeld T && !P.eqGuardType P.depth T&&(match P.underlying T with
  |some (.struct fs)=>(match fs.toList with
   |f::g::[]=>CT f&&QM P a (.inl f.type)&&CT g&&QM P b (.inl g.type)
   |f::g::h::r=>CT f&&QM P a (.inl f.type)&&QM P b (.inr (g::h::r))
   |_=>false)
  |_=>false)
 |.pair a b,.inr (f::g::[])=>CT f&&QM P a (.inl f.type)&&CT g&&QM P b (.inl g.type)
 |.pair a b,.inr (f::g::h::r)=>CT f&&QM P a (.inl f.type)&&QM P b (.inr (g::h::r))
 |.arr _ e,.inl T => !P.eqGuardType P.depth T&&(match P.underlying T with
  |some (.array _ E)=>QM P e (.inl E)
  |_=>false)
 |_,_=>false
def HH:Ty→Nat
 |.one t=>HH t+1
 |.pair a b=>max (HH a) (HH b)+1
 |.arr _ e=>HH e+1
 |_=>0
theorem uc{T:TypeId}{fs:Array Field}(h:P.underlying T=some (.struct fs)):P.fieldsOf T=fs:=by unfold Program.fieldsOf;rw[h]
def MY(P:Program)(M:Mem)(t:Ty)(T:TypeId):Prop:=
 ∀(x y:t.den) (u v:Value) (w:World) (d:Nat),HH t≤d→jz P t M x u→jz P t M y v→(Op.equalIn (d+1) T u v).run P w = .ok (t.eqb x y) w
theorem sT{t:Ty}{f:Field}(hf:fits P t (.inl f.type)=true)(hb:CT f=true)(hV:MY P M t f.type){x y:t.den}{cs ds:List Value}{off:Nat}(N7:f.offset=off)
  (h1:jB P t M x ((cs.drop off).take t.size)) (h2:jB P t M y ((ds.drop off).take t.size)) (l1:off+t.size≤cs.length) (l2:off+t.size≤ds.length) {d:Nat} (hd:HH t≤d) (rest:List Field) (w:World):
  (Op.eqFields (d+1) cs.toArray ds.toArray (f::rest)).run P w=if t.eqb x y then(Op.eqFields (d+1) cs.toArray ds.toArray rest).run P w else .ok false w:=by
 have hn : f.name ≠ "_" := by
  unfold CT at hb;simpa using hb
 simp only[Op.eqFields,qH hn,qy];rw[N7,gU hf h1 l1];simp only[qt];rw[gU hf h2 l2];simp only[qt];rw[hV x y _ _ w d hd (GQ h1) (GQ h2)];simp only[qt];cases t.eqb x y
 ·simp only[yn,yp,qD,qA,zp]
 ·simp only[zi,qA,zp,yp]
theorem ye7(d:Nat)(cs ds:Array Value)(w:World):(Op.eqFields d cs ds []).run P w = .ok true w:=by simp only[Op.eqFields,qD]
theorem IR{a b:Ty}{x:a.den×b.den}{cs:List Value}{off:Nat}(h:jB P (.pair a b) M x ((cs.drop off).take (a.size+b.size)))(hl:off+(a.size+b.size)≤cs.length):
  jB P a M x.1 ((cs.drop off).take a.size)∧jB P b M x.2 ((cs.drop (off+a.size)).take b.size):=by
 obtain⟨h1,h2⟩:=h;rw[xQ,Nat.min_eq_left (by omega)]at h1;rw[ke,xk,yC]at h2;exact⟨h1,h2⟩
theorem LM{e:Ty}{E:TypeId}(hf:fits P e (.inl E)=true)(hV:MY P M e E){n d:Nat}(hd:HH e≤d){x y:Nat→e.den}{cs ds:List Value}(hx:jB P (.arr n e) M x cs)(hy:jB P (.arr n e) M y ds):
  ∀(l s:Nat),s+l=n→∀(w:World),(forIn (List.range' s l) ((none,()):Option Bool×Unit) (fun i _=>do
   let r ←Op.equalIn (d+1) E (←part E cs.toArray (i*e.size)) (←part E ds.toArray (i*e.size))
   if(!r)=true then pure (ForInStep.done (some false,()))else pure (ForInStep.yield (none,())):Nat→Option Bool×Unit→Sem (ForInStep (Option Bool×Unit)))).run P w=
   .ok (if((List.range' s l).all fun i=>e.eqb (x i) (y i))=true then(none,())else(some false,())) w
 |0,s,_,w=>by
  simp only[List.range'_zero,List.forIn_nil,qD,List.all_nil,yp]
 | l+1,s,hs,w=>by
  have hlt:s<n:=by omega
  have jL:(s+1)*e.size≤n*e.size:=q9 _ hlt;simp only[zC,zZ]at jL;have lx:=hx.1;have ly:=hy.1;simp only[kh,List.forIn_cons,qy];rw[gU hf (hx.2 s hlt) (by omega)];simp only[qt];rw[gU hf (hy.2 s hlt) (by omega)];simp only[qt];rw[hV _ _ _ _ w d hd (GQ (hx.2 s hlt)) (GQ (hy.2 s hlt))];simp only[qt,kr];rcases Bool.eq_false_or_eq_true (e.eqb (x s) (y s))with hb|hb
  rotate_left
  ·simp only[hb,yn,yp,qD,qt,zS,qA,zp]
  ·simp only[hb,zi,qA,zp,qD,qt,zJ];exact LM hf hV hd hx hy l (s+1) (by omega) w
theorem aY:∀(t:Ty),(∀T,fits P t (.inl T)=true→QM P t (.inl T)=true→MY P M t T)∧
  (∀fs off,fits P t (.inr (fs,off))=true→QM P t (.inr fs)=true→∀(x y:t.den) (cs ds:List Value) (w:World) (d:Nat),HH t≤d+1→jB P t M x ((cs.drop off).take t.size)→jB P t M y ((ds.drop off).take t.size)→
   off+t.size≤cs.length→off+t.size≤ds.length→(Op.eqFields (d+1) cs.toArray ds.toArray fs).run P w = .ok (t.eqb x y) w)
 |.int k=>by
  refine⟨fun T h1 _ x y u v w d _ hx hy =>?_,fun fs off h1 h2=>by simp[QM]at h2⟩;have hu:=fits_int h1;have e1:u = .int k x:=by have h:[u]=[Value.int k x]:=hx;exact yD h
  have e2:v = .int k y:=by have h:[v]=[Value.int k y]:=hy;exact yD h
  subst e1 e2;exact run_equalIn_int w d T k k x y hu
 |.bool=>by
  refine⟨fun T h1 _ x y u v w d _ hx hy =>?_,fun fs off h1 h2=>by simp[QM]at h2⟩;have hu:=fits_bool h1;have e1:u = .bool x:=by have h:[u]=[Value.bool x]:=hx;exact yD h
  have e2:v = .bool y:=by have h:[v]=[Value.bool y]:=hy;exact yD h
  subst e1 e2;exact run_equalIn_bool' w d T x y hu
 |.str=>by
  refine⟨fun T h1 _ x y u v w d _ hx hy =>?_,fun fs off h1 h2=>by simp[QM]at h2⟩;have hu:=Ak h1;have e1:u = .string x:=by have h:[u]=[Value.string x]:=hx;exact yD h
  have e2:v = .string y:=by have h:[v]=[Value.string y]:=hy;exact yD h
  subst e1 e2;rw[run_equalIn_string w d T x y hu];rfl
 | .one t=>by
  refine⟨fun T h1 h2 x y u v w d hd hx hy =>?_,fun fs off h1 h2=>by simp[QM]at h2⟩;obtain⟨fs,Yh⟩:=AC h1 (.inr (.inl ⟨t,rfl⟩));rw[QM]at h2;simp only[Yh,qg,zO]at h2;obtain⟨⟨Zd,X4⟩,h2⟩:=h2;split at h2
  ·rename_i f hl;simp only[qg]at h2;have JU:=h1;rw[fits]at JU;split at JU
   ·rename_i i dd hi wM;rw[Yh]at wM;cases wM;simp only[qg,hl]at JU;obtain⟨_,ho,hft⟩:=JU;have ho:=qq ho;obtain⟨cs,rfl,eK⟩:∃cs:Array Value,u = .agg cs∧jB P t M x cs.toList:=hx
    obtain⟨ds,rfl,Cz⟩:∃ds:Array Value,v = .agg ds∧jB P t M y ds.toList:=hy
    have lx:=Qp t M x _ eK;have ly:=Qp t M y _ Cz;obtain⟨d,rfl⟩:∃d',d=d'+1:=⟨d-1,by simp only[HH]at hd;omega⟩
    rw[run_equalIn_agg w (d+1) T cs ds (by rw[uc Yh];exact Yh) Zd,uc Yh,hl];have:=sT (P:=P) (M:=M) hft h2.1 ((aY t).1 f.type hft h2.2) (x:=x) (y:=y) (cs:=cs.toList) (ds:=ds.toList) (off:=0) ho (by rw[yz,zF (by omega)];exact eK) (by rw[yz,zF (by omega)];exact Cz) (by omega) (by omega) (d:=d) (by simp only[HH]at hd;omega) [] w;simp only[yl]at this;rw[this,ye7];show _=Result.ok (t.eqb x y) w;cases t.eqb x y<;>rfl
   ·cases JU
  ·cases h2
 | .pair a b=>by
  have fields:∀fs off,fits P (.pair a b) (.inr (fs,off))=true→QM P (.pair a b) (.inr fs)=true→∀(x y:(Ty.pair a b).den) (cs ds:List Value) (w:World) (d:Nat),HH (.pair a b)≤d+1→jB P (.pair a b) M x ((cs.drop off).take (Ty.pair a b).size)→jB P (.pair a b) M y ((ds.drop off).take (Ty.pair a b).size)→
    off+(Ty.pair a b).size≤cs.length→off+(Ty.pair a b).size≤ds.length→(Op.eqFields (d+1) cs.toArray ds.toArray fs).run P w = .ok ((Ty.pair a b).eqb x y) w:=by
   intro fs off h1 h2 x y cs ds w d hd hx hy l1 l2;have lx:off+(a.size+b.size)≤cs.length:=l1;have ly:off+(a.size+b.size)≤ds.length:=l2;obtain⟨x1,x2⟩:=IR (x:=x) hx lx;obtain⟨y1,y2⟩:=IR (x:=y) hy ly;simp only[HH]at hd;match fs,h1,h2 with
   |[],h1,_=>simp[fits]at h1
   |[_],h1,_=>simp[fits]at h1
   |[f,g],h1,h2=>
    rw[fits.eq_2]at h1;rw[QM]at h2;simp only[qg]at h1 h2;obtain⟨⟨⟨o1,f1⟩,o2⟩,f2⟩:=h1;obtain⟨⟨⟨n1,e1⟩,n2⟩,e2⟩:=h2;have o1:=qq o1;have o2:=qq o2;rw[sT f1 n1 ((aY a).1 f.type f1 e1) o1 x1 y1 (by omega) (by omega) (by omega)];rw[sT f2 n2 ((aY b).1 g.type f2 e2) o2 x2 y2 (by omega) (by omega) (by omega),ye7];show _=Result.ok (a.eqb x.1 y.1&&b.eqb x.2 y.2) w;cases a.eqb x.1 y.1<;>cases b.eqb x.2 y.2<;>rfl
   |f::g::h::r,h1,h2=>
    rw[fits.eq_3]at h1;rw[QM]at h2;simp only[qg]at h1 h2;obtain⟨⟨o1,f1⟩,f2⟩:=h1;obtain⟨⟨n1,e1⟩,e2⟩:=h2;have o1:=qq o1;rw[sT f1 n1 ((aY a).1 f.type f1 e1) o1 x1 y1 (by omega) (by omega) (by omega)];rw[(aY b).2 (g::h::r) (off+a.size) f2 e2 x.2 y.2 cs ds w d (by omega) x2 y2 (by omega) (by omega)];show _=Result.ok (a.eqb x.1 y.1&&b.eqb x.2 y.2) w;cases a.eqb x.1 y.1<;>cases b.eqb x.2 y.2<;>rfl
  refine⟨fun T h1 h2 x y u v w d hd hx hy =>?_,fields⟩;obtain⟨fs,Yh⟩:=AC h1 (.inr (.inr ⟨a,b,rfl⟩));rw[QM]at h2;simp only[Yh,qg,zO]at h2;obtain⟨⟨Zd,X4⟩,h2⟩:=h2;obtain⟨cs,rfl,eK⟩:∃cs:Array Value,u = .agg cs∧jB P (.pair a b) M x cs.toList:=hx
  obtain⟨ds,rfl,Cz⟩:∃ds:Array Value,v = .agg ds∧jB P (.pair a b) M y ds.toList:=hy
  have lx:=Qp _ M x _ eK;have ly:=Qp _ M y _ Cz;obtain⟨d,rfl⟩:∃d',d=d'+1:=⟨d-1,by simp only[HH]at hd;omega⟩
  rw[run_equalIn_agg w (d+1) T cs ds (by rw[uc Yh];exact Yh) Zd,uc Yh];have JU:fits P (.pair a b) (.inr (fs.toList,0))=true:=by
   rw[fits]at h1;split at h1
   ·rename_i i dd hi wM;rw[Yh]at wM;cases wM;simp only[qg]at h1;obtain⟨_,h1⟩:=h1;split at h1
    ·rename_i f g hl;rw[hl,fits.eq_2];simpa using h1
    ·rename_i f g h r hl;rw[hl,fits.eq_3];simpa using h1
    ·cases h1
   ·cases h1
  have BU:QM P (.pair a b) (.inr fs.toList)=true:=by
   split at h2
   ·rename_i f g hl;rw[hl,QM];exact h2
   ·rename_i f g h r hl;rw[hl,QM];exact h2
   ·cases h2
  have:=fields fs.toList 0 JU BU x y cs.toList ds.toList w d (by omega) (by rw[yz,zF (by omega)];exact eK) (by rw[yz,zF (by omega)];exact Cz) (by omega) (by omega);simpa only[yl]using this
 |.unit=>⟨fun _ _ h=>by simp[QM]at h,fun _ _ _ h=>by simp[QM]at h⟩
 |.err=>⟨fun _ _ h=>by simp[QM]at h,fun _ _ _ h=>by simp[QM]at h⟩
 |.arr n e=>by
  refine⟨fun T h1 h2 x y u v w d hd hx hy =>?_,fun fs off h1 h2=>by simp[QM]at h2⟩;obtain⟨E,hE,ZG⟩:=Aj h1;rw[QM]at h2;simp only[hE,qg,zO]at h2;obtain⟨X4,h2⟩:=h2;obtain⟨cs,rfl,eK⟩:∃cs:Array Value,u = .agg cs∧jB P (.arr n e) M x cs.toList:=hx
  obtain⟨ds,rfl,Cz⟩:∃ds:Array Value,v = .agg ds∧jB P (.arr n e) M y ds.toList:=hy
  obtain⟨d,rfl⟩:∃d',d=d'+1:=⟨d-1,by simp only[HH]at hd;omega⟩
  obtain⟨i,dd,hi⟩:=Qx ZG;have:=LM ZG ((aY e).1 E ZG h2) (d:=d) (by simp only[HH]at hd;omega) eK Cz n 0 (by omega) w;simp only[yl]at this;rw[Op.equalIn];simp only[qy,qG hE,qt,Kj hi,Std.Legacy.Range.forIn_eq_forIn_range',Std.Legacy.Range.size,yO,kW,Nat.div_one];rw[this];show _=Result.ok ((List.range n).all fun i=>e.eqb (x i) (y i)) w;rw[zY];cases(List.range' 0 n).all fun i=>e.eqb (x i) (y i)<;>rfl
 |.slice _=>⟨fun _ _ h=>by simp[QM]at h,fun _ _ _ h=>by simp[QM]at h⟩
 |.ptr _=>⟨fun _ _ h=>by simp[QM]at h,fun _ _ _ h=>by simp[QM]at h⟩
 |.fn _ _=>⟨fun _ _ h=>by simp[QM]at h,fun _ _ _ h=>by simp[QM]at h⟩
 |.seq _=>⟨fun _ _ h=>by simp[QM]at h,fun _ _ _ h=>by simp[QM]at h⟩
 |.mapT _ _=>⟨fun _ _ h=>by simp[QM]at h,fun _ _ _ h=>by simp[QM]at h⟩
end Go.Lift
namespace Go.Lift
open Go Go.RowKit
variable [wB] [Mf]
variable {P:Program}
def cy:List (Nat×Ty)→Nat→Option Ty
 |[],_=>none
 |e::r,T=>bif Nat.beq e.1 T then some e.2 else cy r T
def Sb:List (Nat×Nat)→Nat→Nat
 |[],_=>0
 |e::r,T=>bif Nat.beq e.1 T then e.2 else Sb r T
def lY:List Sig→FuncId→Option Sig
 |[],_=>none
 |s::r,f=>bif Nat.beq s.f f then some s else lY r f
def F3(Zz:List (Nat×Ty))(VG:List (Nat×Nat))(eqs:List Nat)(own:List Nat)(QG:List Sig):QW:=
 ⟨cy Zz,Sb VG,lY QG,fun d=>own.any fun i=>Nat.beq i d,fun T=>eqs.any fun i=>Nat.beq i T,Mf.on,fun _=>false,fun _=>false,fun _=>none,false⟩
def Pu(Zz:List (Nat×Ty))(VG:List (Nat×Nat))(eqs:List Nat)(own owns:List Nat)(QG:List Sig):QW:=
 ⟨cy Zz,Sb VG,lY QG,fun d=>own.any fun i=>Nat.beq i d,fun T=>eqs.any fun i=>Nat.beq i T,Mf.on,fun _=>false,fun f=>owns.any fun i=>Nat.beq i f,fun _=>none,false⟩
def PG(Zz:List (Nat×Ty))(VG:List (Nat×Nat))(eqs:List Nat)(own owns:List Nat)(QG:List Sig):QW:={Pu Zz VG eqs own owns QG with gown:=true}
def ye0:Ty→Bool
 |.str |.one _ |.pair _ _ |.arr _ _=>true
 |_=>false
def Si(P:Program)(Zz:List (Nat×Ty)):Bool:=Zz.all fun e=>fits P e.2 (.inl e.1)
def Sc(P:Program)(Zz:List (Nat×Ty))(VG:List (Nat×Nat)):Bool:=Zz.all fun e=>match P.underlying e.1 with
 |some (.struct fs)=>Nat.beq (Sb VG e.1) fs.size
 |_=>true
def u9(P:Program)(Zz:List (Nat×Ty))(eqs:List Nat):Bool:=eqs.all fun T=>match cy Zz T with
 |some t=>QM P t (.inl T)&&ye0 t&&Nat.ble (HH t) 9999
 |none=>true
theorem th:∀{Zz:List (Nat×Ty)} {T:Nat} {t:Ty},cy Zz T=some t→(T,t)∈Zz
 |[],_,_,h=>by cases h
 | e::r,T,t,h=>by
  unfold cy at h;cases hb:Nat.beq e.1 T with
  |true=>
   rw[hb]at h;simp only[qv,qb]at h;have:=qq hb;subst this h;exact zR
  |false=>rw[hb]at h;exact qo _ (th h)
theorem UY:∀{l:List Sig} {f:FuncId} {s:Sig},lY l f=some s→s∈l∧s.f=f
 |[],_,_,h=>by cases h
 | e::r,f,s,h=>by
  unfold lY at h;cases hb:Nat.beq e.f f with
  |true=>
   rw[hb]at h;simp only[qv,qb]at h;subst h;exact⟨zR,qq hb⟩
  |false=>
   rw[hb]at h;obtain⟨h1,h2⟩:=UY h;exact⟨qo _ h1,h2⟩
theorem gr{Zz:List (Nat×Ty)}{VG:List (Nat×Nat)}{eqs own:List Nat}{QG:List Sig}(h1:Si P Zz=true)(h2:Sc P Zz VG=true)(h3:u9 P Zz eqs=true)
  (h4:∀s∈QG,Enters P s.f∧FC P s):Qw P (F3 Zz VG eqs own QG):=by
 refine⟨fun T t ht =>?_,rfl,fun T t fs ht hu =>?_,fun f s hs =>?_,(fun _ _ h=>by cases h),(fun _ _ h=>by cases h),(fun _ _ h=>by cases h),fun T t he ht M x y u v w p q hx hy =>?_⟩
 ·exact qW.1 h1 _ (th ht)
 ·have:=qW.1 h2 _ (th ht);rw[hu]at this;exact qq this
 ·obtain⟨hm,hf⟩:=UY hs;exact⟨hf,(h4 s hm).1 |> fun e=>by rw[←hf];exact e,(h4 s hm).2⟩
 ·obtain⟨T',hT',hb⟩:=zI.1 he;have:=qq hb;subst this;have hc:=qW.1 h3 T' hT';rw[show cy Zz T'=some t from ht]at hc;simp only[qg,Nat.ble_eq]at hc;obtain⟨⟨e1,e2⟩,e3⟩:=hc;have wF:fits P t (.inl T')=true:=qW.1 h1 _ (th ht);have hV:=(aY (P:=P) (M:=M) t).1 T' wF e1 x y u v w 9999 e3 hx hy;cases t with
  |str=>
   have a1:u = .string x:=by have h:[u]=[Value.string x]:=hx;exact yD h
   have a2:v = .string y:=by have h:[v]=[Value.string y]:=hy;exact yD h
   subst a1 a2;constructor
   ·simp only[qy];rw[show(eqGuard .eql T' p q (.string x) (.string y)).run P w = .ok () w from rfl];rfl
   ·simp only[qy];rw[show(eqGuard .neq T' p q (.string x) (.string y)).run P w = .ok () w from rfl];rfl
  |one t'=>
   obtain⟨cs,rfl,_⟩:∃cs:Array Value,u = .agg cs∧jB P (.one t') M x cs.toList:=hx
   obtain⟨ds,rfl,_⟩:∃ds:Array Value,v = .agg ds∧jB P (.one t') M y ds.toList:=hy
   rw[QM]at e1;simp only[qg,zO]at e1;constructor
   ·simp only[qy];rw[ko w .eql T' p q cs ds e1.1.2];simp only[qt];rw[run_eql_struct,hV];rfl
   ·simp only[qy];rw[ko w .neq T' p q cs ds e1.1.2];simp only[qt];rw[run_neq_struct,hV];rfl
  |pair a b=>
   obtain⟨cs,rfl,_⟩:∃cs:Array Value,u = .agg cs∧jB P (.pair a b) M x cs.toList:=hx
   obtain⟨ds,rfl,_⟩:∃ds:Array Value,v = .agg ds∧jB P (.pair a b) M y ds.toList:=hy
   rw[QM]at e1;simp only[qg,zO]at e1;constructor
   ·simp only[qy];rw[ko w .eql T' p q cs ds e1.1.2];simp only[qt];rw[run_eql_struct,hV];rfl
   ·simp only[qy];rw[ko w .neq T' p q cs ds e1.1.2];simp only[qt];rw[run_neq_struct,hV];rfl
  |arr n a=>
   obtain⟨cs,rfl,_⟩:∃cs:Array Value,u = .agg cs∧jB P (.arr n a) M x cs.toList:=hx
   obtain⟨ds,rfl,_⟩:∃ds:Array Value,v = .agg ds∧jB P (.arr n a) M y ds.toList:=hy
   rw[QM]at e1;simp only[qg,zO]at e1;constructor
   ·simp only[qy];rw[ko w .eql T' p q cs ds e1.1];simp only[qt];rw[run_eql_struct,hV];rfl
   ·simp only[qy];rw[ko w .neq T' p q cs ds e1.1];simp only[qt];rw[run_neq_struct,hV];rfl
  |_=>simp[ye0]at e2
theorem yfw{Zz:List (Nat×Ty)}{VG:List (Nat×Nat)}{eqs own owns:List Nat}{QG:List Sig}(h:Qw P (F3 Zz VG eqs own QG))(hn:∀s∈QG,(owns.any fun i=>Nat.beq i s.f)=true→aX P s):
  Qw P (Pu Zz VG eqs own owns QG):=
 ⟨h.ty,h.mf,h.nf,h.sig,h.news,fun f s hf hs=>by
  obtain⟨hm,e⟩:=UY hs;exact hn s hm (by rw[e];exact hf),h.iters,h.eq⟩
theorem ycx{Zz:List (Nat×Ty)}{VG:List (Nat×Nat)}{eqs own owns:List Nat}{QG:List Sig}(h:Qw P (Pu Zz VG eqs own owns QG)):Qw P (PG Zz VG eqs own owns QG):=
 ⟨h.ty,h.mf,h.nf,h.sig,h.news,h.owns,h.iters,h.eq⟩
def lX(P:Program)(f:FuncId):Bool:=match P.funcs[f]? with
 | some fn => !fn.body.isNone && !(fn.name == "runtime.NumGoroutine")
 |none=>false
theorem enters_of{f:FuncId}(h:lX P f=true):Enters P f:=by
 unfold lX at h;split at h
 ·rename_i fn Fl;simp only[qg,zO]at h;exact⟨fn,Fl,h.1,h.2⟩
 ·cases h
def Has(P:Program)(s:Sig):Prop:=Enters P s.f∧FC P s
theorem we(hm:P.follows .mixedOrders=true){Zz:List (Nat×Ty)}{VG:List (Nat×Nat)}{eqs own:List Nat}{QG:List Sig}(h1:Si P Zz=true)(h2:Sc P Zz VG=true)(h3:u9 P Zz eqs=true)
  (h4:∀s∈QG,Has P s) {fn:Func} {n:Ann} {s:Sig} (hf:P.funcs[s.f]?=some fn) (he:lX P s.f=true) (jF:∀x,jU (F3 Zz VG eqs own QG) fn n s.ats s.rts x=s.run x):Has P s:=
 ⟨enters_of he,ya5 hm (gr h1 h2 h3 h4) hf rfl jF⟩
theorem yde{owns:List Nat}:∀s∈([]:List Sig),(owns.any fun i=>Nat.beq i s.f)=true→aX P s:=fun _ h=>by cases h
theorem y13{owns:List Nat}{s:Sig}{l:List Sig}(h:(owns.any fun i=>Nat.beq i s.f)=true→aX P s)(hl:∀s∈l,(owns.any fun i=>Nat.beq i s.f)=true→aX P s):∀x∈s::l,(owns.any fun i=>Nat.beq i x.f)=true→aX P x:=fun x hx=>by
 rcases qF.1 hx with rfl|hx
 ·exact h
 ·exact hl x hx
theorem all_nil:∀s∈([]:List Sig),Has P s:=fun _ h=>by cases h
theorem all_cons{s:Sig}{l:List Sig}(h:Has P s)(hl:∀s∈l,Has P s):∀x∈s::l,Has P x:=fun x hx=>by
 rcases qF.1 hx with rfl|hx
 ·exact h
 ·exact hl x hx
end Go.Lift
