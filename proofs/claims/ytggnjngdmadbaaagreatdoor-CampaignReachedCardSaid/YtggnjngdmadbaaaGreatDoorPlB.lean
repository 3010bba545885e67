/-
  Keys of yards; how many yards there are; the search finds a plan of least work.
-/
import Derived.Test.YtggnjngdmadbaaaGreatDoorPlA
set_option linter.unusedSectionVars false
set_option linter.unusedVariables false
set_option linter.unusedSimpArgs false
namespace Go.Lift
open Go
def noCh(c:UInt8)(l:List UInt8):Prop:=∀b,b∈l→b≠c
theorem zks(c:UInt8)(x y:List UInt8)(r:List (List UInt8)):Lib.join (x::y::r) [c]=x++c::Lib.join (y::r) [c]:=by
 rw[Lib.join_cons,Lib.join_cons];simp[Lib.joinTail]
theorem y78{c:UInt8}:∀ {a b u v:List UInt8},noCh c a→noCh c b→a++c::u=b++c::v→a=b∧u=v
 |[],[],u,v,_,_,h=>by simpa using h
 |[],z::b,u,v,_,hb,h=>by
  simp only[List.nil_append,List.cons_append,List.cons.injEq] at h;exact absurd h.1.symm (hb z (by simp))
 |z::a,[],u,v,ha,_,h=>by
  simp only[List.nil_append,List.cons_append,List.cons.injEq] at h;exact absurd h.1 (ha z (by simp))
 |z::a,z'::b,u,v,ha,hb,h=>by
  simp only[List.cons_append,List.cons.injEq] at h;obtain⟨h1,h2⟩:=y78 (fun x hx=>ha x (qo _ hx)) (fun x hx=>hb x (qo _ hx)) h.2;exact⟨by rw[h.1,h1],h2⟩
theorem ycg{c:UInt8}{a b u:List UInt8}(ha:noCh c a)(h:a=b++c::u):False:=ha c (by rw[h];simp) rfl
theorem zwz{c:UInt8}:∀ {L K:List (List UInt8)},L≠[]→K≠[]→(∀x∈L,noCh c x)→(∀x∈K,noCh c x)→Lib.join L [c]=Lib.join K [c]→L=K
 |[],_,h,_,_,_,_=>absurd rfl h
 |_::_,[],_,h,_,_,_=>absurd rfl h
 |[x],[y],_,_,_,_,h=>by rw[Lib.join_one,Lib.join_one] at h;rw[h]
 |[x],y::y2::s,_,_,h1,_,h=>by
  rw[Lib.join_one,zks] at h;exact(ycg (h1 x (by simp)) h).elim
 |x::x2::r,[y],_,_,_,h2,h=>by
  rw[Lib.join_one,zks] at h;exact(ycg (h2 y (by simp)) h.symm).elim
 |x::x2::r,y::y2::s,_,_,h1,h2,h=>by
  rw[zks,zks] at h;obtain⟨e1,e2⟩:=y78 (h1 x (by simp)) (h2 y (by simp)) h;have:=zwz (List.cons_ne_nil x2 r) (List.cons_ne_nil y2 s) (fun z hz=>h1 z (qo _ hz)) (fun z hz=>h2 z (qo _ hz)) e2;rw[e1,this]
theorem y1x{c:UInt8}{B:Nat}:∀ {L:List (List UInt8)},(∀x∈L,x.length≤B)→(Lib.join L [c]).length≤L.length*(B+1)
 |[],_=>by rw[Lib.join_nil];simp
 |[x],h=>by
  rw[Lib.join_one];have:=h x (by simp);simp only[qj,Nat.one_mul];omega
 |x::y::r,h=>by
  rw[zks];have h1:=h x (by simp);have h2:=y1x (c:=c) (L:=y::r) fun z hz=>h z (qo _ hz)
  rw[qe,qk,qk,Nat.add_mul,Nat.one_mul];omega
theorem y3v{c b:UInt8}:∀ {L:List (List UInt8)},b∈Lib.join L [c]→b=c∨∃x∈L,b∈x
 |[],h=>by rw[Lib.join_nil] at h;cases h
 |[x],h=>by rw[Lib.join_one] at h;exact .inr ⟨x,by simp,h⟩
 | x::y::r,h=>by
  rw[zks] at h;rcases List.mem_append.1 h with h|h
  ·exact .inr ⟨x,by simp,h⟩
  ·rcases List.mem_cons.1 h with h|h
   ·exact .inl h
   ·rcases y3v h with h|⟨z,hz,h⟩
    ·exact .inl h
    ·exact .inr ⟨z,qo _ hz,h⟩
theorem y3m{c:Int}:∀ {l:List Int} {i:Nat},zl4 i l=true→c∈l→∃j,nameAt j c=true
 |[],_,_,h=>by cases h
 |z::l,i,h,hc=>by
  simp only[zl4,qg] at h;rcases List.mem_cons.1 hc with rfl|hc
  ·exact⟨i,h.1⟩
  ·exact y3m h.2 hc
theorem zv1{x:ByteArray}(h:zam x=true){b:UInt8}(hb:b∈x.data.toList):b≠32∧b≠47:=by
 unfold zam at h;rw[qg] at h;have hm:((b.toNat:Nat):Int)∈z3k x:=by
  unfold z3k;exact List.mem_map.2 ⟨b,hb,rfl⟩
 obtain⟨j,hj⟩:=y3m h.1 hm;unfold nameAt at hj;simp only[Bool.or_eq_true,qg,decide_eq_true_eq] at hj;constructor
 ·rintro rfl;have:((32:UInt8).toNat:Int)=32:=rfl;omega
 ·rintro rfl;have:((47:UInt8).toNat:Int)=47:=rfl;omega
def zg5(p:List ByteArray):List UInt8:=Lib.join (p.map (·.data.toList)) [32]
def yat(p:List ByteArray):ByteArray:=⟨(zg5 p).toArray⟩
def keyB(y:YdT):ByteArray:=⟨(Lib.join (y.map zg5) [47]).toArray⟩
theorem zoj:∀ {p q:List ByteArray},p.map (·.data.toList)=q.map (·.data.toList)→p=q
 |[],[],_=>rfl
 |[],_::_,h=>by cases h
 |_::_,[],h=>by cases h
 |x::p,y::q,h=>by
  simp only[List.map_cons,List.cons.injEq] at h;rw[zoj h.2,ByteArray.ext (Array.toList_inj.mp h.1)]
theorem y81{p q:List ByteArray}(hp:∀x∈p,zam x=true)(hq:∀x∈q,zam x=true)(h:zg5 p=zg5 q):p=q:=by
 have nn:∀ {p:List ByteArray},(∀x∈p,zam x=true)→p≠[]→zg5 p≠[]:=fun{p} hp hne he=>by
  match p,hne with
  | x::r,_=>
   have hs:=(zv2 (hp x (by simp))).1;have:(zg5 (x::r)).length≥x.size:=by
    unfold zg5;rw[List.map_cons,Lib.join_cons,qe];have:x.data.toList.length=x.size:=rfl;omega
   rw[he,List.length_nil] at this;omega
 have ch:∀ {p:List ByteArray},(∀x∈p,zam x=true)→∀l∈p.map (·.data.toList),noCh 32 l:=fun{p} hp l hl b hb=>by
  obtain⟨x,hx,rfl⟩:=List.mem_map.1 hl;exact(zv1 (hp x hx) hb).1
 by_cases h1:p=[]
 ·by_cases h2:q=[]
  ·rw[h1,h2]
  ·exact absurd (h.symm.trans (by rw[h1];rfl)) (nn hq h2)
 ·by_cases h2:q=[]
  ·exact absurd (h.trans (by rw[h2];rfl)) (nn hp h1)
  ·refine zoj (zwz (by simpa using h1) (by simpa using h2) (ch hp) (ch hq) h)
theorem yas{p:List ByteArray}(hp:∀x∈p,zam x=true):noCh 47 (zg5 p):=by
 intro b hb;unfold zg5 at hb;rcases y3v hb with rfl|⟨l,hl,hb⟩
 ·decide
 ·obtain⟨x,hx,rfl⟩:=List.mem_map.1 hl;exact(zv1 (hp x hx) hb).2
theorem zs1:∀ {y z:YdT},(∀x∈y.flatten,zam x=true)→(∀x∈z.flatten,zam x=true)→y.map zg5=z.map zg5→y=z
 |[],[],_,_,_=>rfl
 |[],_::_,_,_,h=>by cases h
 |_::_,[],_,_,h=>by cases h
 |p::y,q::z,h1,h2,h=>by
  simp only[List.map_cons,List.cons.injEq] at h;simp only[List.flatten_cons,List.mem_append] at h1 h2;rw[y81 (fun x hx=>h1 x (.inl hx)) (fun x hx=>h2 x (.inl hx)) h.1,zs1 (fun x hx=>h1 x (.inr hx)) (fun x hx=>h2 x (.inr hx)) h.2]
theorem ybj{y z:YdT}(hl:y.length=z.length)(h1:∀x∈y.flatten,zam x=true)(h2:∀x∈z.flatten,zam x=true)(h:keyB y=keyB z):y=z:=by
 by_cases h0:y=[]
 ·subst h0;exact(List.eq_nil_of_length_eq_zero hl.symm).symm
 ·have h0':z≠[]:=fun e=>h0 (List.eq_nil_of_length_eq_zero (by rw[hl,e]; rfl))
  have e:Lib.join (y.map zg5) [47]=Lib.join (z.map zg5) [47]:=by
   have:=congrArg (fun b:ByteArray=>b.data.toList) h;simpa [keyB] using this
  have no:∀ {y:YdT},(∀x∈y.flatten,zam x=true)→∀l∈y.map zg5,noCh 47 l:=fun{y} hy l hl=>by
   obtain⟨p,hp,rfl⟩:=List.mem_map.1 hl;exact yas fun x hx=>hy x (List.mem_flatten.2 ⟨p,hp,hx⟩)
  exact zs1 h1 h2 (zwz (by simpa using h0) (by simpa using h0') (no h1) (no h2) e)
theorem ybi{y:YdT}(hy:y.length≤1000){g:List ByteArray→Option ByteArray}{f:List ByteArray→ByteArray}(hg:∀p∈y,g p=some (f p)):z2l (S:=(List ByteArray)×Int) (R:=(List ByteArray)) (fun s=>
  let w:(List ByteArray):=s.1
  let t:Int:=s.2
  bif decide (t < (List.length y:Int)) then
   chk (decide ((0:Int)≤t)&&decide (t < (List.length y:Int))) (
    (g (lget [] y t)).bind fun(t_1:ByteArray)=>
    (app w [t_1]).bind fun(t_2:List ByteArray)=>
    some (.inl (t_2,wi64 (t+1))))
  else
   some (.inr w)) ([],0)=some (y.map f):=by
 refine z1d (X:=List ByteArray) (fun rest s=>∃pre,y=pre++rest∧s=(pre.map f,(pre.length:Int))) ?_ ?_ (l:=y) ⟨[],rfl,rfl⟩
 ·rintro x rest _ ⟨pre,h1,rfl⟩;have hlen:=congrArg List.length h1;rw[qe,qk] at hlen;have hx:lget [] y (pre.length:Int)=x:=by rw[h1];exact z3i
  refine Or.inl ⟨((pre++[x]).map f,((pre++[x]).length:Int)),?_,pre++[x],by rw[h1];simp,rfl⟩;simp only[];rw[z01 (show(pre.length:Int) < (y.length:Int) by omega),cond_true,z3b (z0q (z01 (by omega)) rfl),hx,hg x (by rw[h1];simp),qh,zlu (by rw[qj,List.length_map];omega),qh,z2p (by omega) (by omega),qe,qj,List.map_append];rfl
 ·rintro _ ⟨pre,h1,rfl⟩;rw[List.append_nil] at h1;subst h1;simp only[];rw[z0a (show ¬(y.length:Int) < (y.length:Int) by omega),cond_false]
theorem y38{p:List ByteArray}(hl:p.length≤8)(hs:∀x∈p,x.size≤20):(zg5 p).length≤168:=by
 have:=y1x (c:=32) (B:=20) (L:=p.map (·.data.toList)) fun l hl=>by
  obtain⟨x,hx,rfl⟩:=List.mem_map.1 hl;exact hs x hx
 rw[List.length_map] at this;unfold zg5;omega
theorem zze{n:z2w}{req:List ByteArray}(h:Few n.1 req):z47 n=some (keyB n.1):=by
 obtain⟨h1,_,h3⟩:=h;have hj:∀p∈n.1,strings_Join p (bytes [32])=some (yat p):=fun p hp=>by
  have hk:=y38 (p:=p) (h3 p hp).1 (h3 p hp).2;have:=(h3 p hp).1;unfold strings_Join;rw[show(bytes [32]).data.toList=[32] from rfl,z01 (show p.length≤4294967296 by omega),z01 (show(Lib.join (p.map (·.data.toList)) [32]).length≤4294967296 by unfold zg5 at hk;omega)];rfl
 unfold z47;rw[ybi (by omega) hj,qh];have e:(n.1.map yat).map (·.data.toList)=n.1.map zg5:=by
  rw[List.map_map];refine List.map_congr_left fun p _ => ?_
  simp[yat]
 have hl:(Lib.join (n.1.map zg5) [47]).length≤2000:=by
  have:=y1x (c:=47) (B:=168) (L:=n.1.map zg5) fun l hl=>by
   obtain⟨p,hp,rfl⟩:=List.mem_map.1 hl;exact y38 (h3 p hp).1 (h3 p hp).2
  rw[List.length_map] at this;have:n.1.length*169≤6*169:=Nat.mul_le_mul_right _ h1;omega
 unfold strings_Join;rw[show(bytes [47]).data.toList=[47] from rfl,e,z01 (show(n.1.map yat).length≤4294967296 by rw[List.length_map];omega),z01 (show(Lib.join (n.1.map zg5) [47]).length≤4294967296 by omega)];rfl
theorem zv4{y:YdT}(hy:y.length≤1000):∀l:List (Int×Int),z9o y l=some (l.filter fun m=>z8z y m == 0)
 |[]=>rfl
 |m::l=>by
  simp only[z9o];rw[zp2 hy,qh,zv4 hy l,qh];cases h:z8z y m == 0 with
  |true=>rw[cond_true,List.filter_cons_of_pos (p:=fun m=>z8z y m == 0) h]
  |false=>rw[cond_false,List.filter_cons_of_neg (p:=fun m=>z8z y m == 0) (by rw[h];exact Bool.false_ne_true)]
def znq(y:YdT):List (Int×Int):=(zlp y.length).filter fun m=>z8z y m == 0
theorem zz2{y:YdT}(hy:y.length≤1000):zv3 y=some (znq y):=by
 unfold zv3;rw[z01 hy,cond_true,zv4 hy];rfl
theorem zv7{k:Nat}{m:Int×Int}:m∈zlp k↔∃a b:Nat,a < k∧b < k∧m=((a:Int),(b:Int)):=by
 unfold zlp;simp only[List.mem_flatMap,List.mem_range,List.mem_map];constructor
 ·rintro⟨a,ha,b,hb,rfl⟩;exact⟨a,b,ha,hb,rfl⟩
 ·rintro⟨a,b,ha,hb,rfl⟩;exact⟨a,ha,b,hb,rfl⟩
theorem y5a(k:Nat):(zlp k).length=k*k:=by
 unfold zlp;rw[List.length_flatMap];simp only[List.length_map,List.length_range];rw[List.map_const'];simp
theorem zqn{y:YdT}{a b:Nat}(ha:a < y.length)(hb:b < y.length):z8z y ((a:Int),(b:Int))=0↔0 < (pl y a).length∧a≠b∧(pl y b).length < 6:=by
 have e:z8z y ((a:Int),(b:Int))=(bif !inR (a:Int) 0 ((y.length:Int)-1)||(!inR (b:Int) 0 ((y.length:Int)-1)&&(b:Int) != -1) then 6 else bif ((pl y a).length:Int) == 0 then 11 else bif (a:Int) == (b:Int) then 3 else bif (b:Int) != -1&&decide (((pl y b).length:Int)≥6) then 16 else 0):=rfl;rw[e];unfold inR;rw[z01 (show(0:Int)≤(a:Int)∧(a:Int)≤(y.length:Int)-1 by omega),z01 (show(0:Int)≤(b:Int)∧(b:Int)≤(y.length:Int)-1 by omega)];simp only[Bool.not_true,Bool.false_and,Bool.or_self,cond_false];have hb1:((b:Int) != -1)=true:=by rw[bne_iff_ne];omega
 rw[hb1,Bool.true_and];by_cases h1:(pl y a).length=0
 ·rw[h1];simp
 ·rw[show(((pl y a).length:Int) == 0)=false by rw[beq_eq_false_iff_ne]; omega,cond_false];by_cases h2:a=b
  ·subst h2;rw[beq_self_eq_true,cond_true];simp
  ·rw[show((a:Int) == (b:Int))=false by rw[beq_eq_false_iff_ne]; omega,cond_false];by_cases h3:(pl y b).length < 6
   ·rw[z0a (show ¬((pl y b).length:Int)≥6 by omega),cond_false];simp only[true_iff];exact⟨by omega,h2,h3⟩
   ·rw[z01 (show((pl y b).length:Int)≥6 by omega),cond_true];simp only[show ¬((16:Int)=0) by decide,false_iff];omega
theorem zou{l:List ByteArray}(h:0 < l.length):∃q x,l=q++[x]:=by
 have hne:l≠[]:=List.ne_nil_of_length_pos h;exact⟨l.dropLast,l.getLast hne,(List.dropLast_concat_getLast hne).symm⟩
theorem y5j{y:YdT}{left:List ByteArray}{m:Int×Int}(h:m∈znq y):∃s',Stp (y,left) m s' 1:=by
 unfold znq at h;rw[List.mem_filter,zv7] at h;obtain⟨⟨a,b,ha,hb,rfl⟩,h2⟩:=h;rw[beq_iff_eq,zqn ha hb] at h2;obtain⟨h3,h4,h5⟩:=h2;obtain⟨q,x,hq⟩:=zou h3;exact⟨_,.mv hq hb h4 h5⟩
theorem y4u{y:YdT}{left:List ByteArray}{m:Int×Int}{s':StT}(h:Stp (y,left) m s' 1):m∈znq y:=by
 cases h with
 | @mv _ _ q x a b hp hb hab hl=>
  have ha:=zox hp;unfold znq;rw[List.mem_filter,zv7];refine⟨⟨a,b,ha,hb,rfl⟩,?_⟩;rw[beq_iff_eq,zqn ha hb];exact⟨by rw[hp,qe,qj];omega,hab,hl⟩
theorem y5k{names req:List ByteArray}{p:Nat}(hc:Cx names req p){s:StT}(hv:Vd names req p s):(znq s.1).length≤16:=by
 have h1:(znq s.1).length≤(zlp s.1.length).length:=List.length_filter_le _ _;rw[y5a,hv.len] at h1;have:=Nat.mul_le_mul hc.p4 hc.p4;omega
def zso(x:ByteArray):List ByteArray→List (List ByteArray)
 |[]=>[[x]]
 |z::p=>(x::z::p)::(zso x p).map (z :: ·)
def insY(x:ByteArray):YdT→List YdT
 |[]=>[]
 |p::y=>(zso x p).map (· :: y)++(insY x y).map (p :: ·)
def allY(p:Nat):List ByteArray→List YdT
 |[]=>[List.replicate p []]
 |x::names=>(allY p names).flatMap fun y=>y::insY x y
theorem zzh(x:ByteArray):∀p:List ByteArray,(zso x p).length=p.length+1
 |[]=>rfl
 |z::p=>by simp only[zso,qk,List.length_map,zzh x p]
theorem y3y(x:ByteArray):∀y:YdT,(insY x y).length=y.flatten.length+y.length
 |[]=>rfl
 |p::y=>by
  simp only[insY,qe,List.length_map,zzh,y3y x y,List.flatten_cons,qk];omega
theorem zvd{x:ByteArray}:∀ {p q:List ByteArray},q∈zso x p→q.length=p.length+1
 |[],q,h=>by simp only[zso,List.mem_singleton] at h;rw[h];rfl
 |z::p,q,h=>by
  simp only[zso,List.mem_cons,List.mem_map] at h;rcases h with rfl|⟨r,hr,rfl⟩
  ·rfl
  ·simp only[qk,zvd hr]
theorem zzf{x:ByteArray}:∀ {y z:YdT},z∈insY x y→z.length=y.length∧z.flatten.length=y.flatten.length+1
 |[],z,h=>by cases h
 | p::y,z,h=>by
  simp only[insY,List.mem_append,List.mem_map] at h;rcases h with⟨q,hq,rfl⟩|⟨w,hw,rfl⟩
  ·refine⟨rfl,?_⟩;simp only[List.flatten_cons,qe,zvd hq];omega
  ·obtain⟨h1,h2⟩:=zzf hw;refine⟨by simp[h1],?_⟩;simp only[List.flatten_cons,qe,h2];omega
theorem zts{p:Nat}:∀ {names:List ByteArray} {y:YdT},y∈allY p names→y.length=p∧y.flatten.length≤names.length
 |[],y,h=>by
  simp only[allY,List.mem_singleton] at h;subst h;refine⟨List.length_replicate,?_⟩;rw[List.flatten_replicate_nil];exact ql _
 | x::names,y,h=>by
  simp only[allY,List.mem_flatMap,List.mem_cons] at h;obtain⟨z,hz,rfl|h⟩:=h
  ·obtain⟨h1,h2⟩:=zts hz;exact⟨h1,by rw[qk];omega⟩
  ·obtain⟨h1,h2⟩:=zts hz;obtain⟨h3,h4⟩:=zzf h;exact⟨by omega,by rw[qk];omega⟩
def cntY(p:Nat):Nat→Nat
 |0=>1
 |n+1=>cntY p n*(n+p+1)
theorem zvj{X Y:Type}{f:X→List Y}{B:Nat}:∀ {l:List X},(∀x∈l,(f x).length≤B)→(l.flatMap f).length≤l.length*B
 |[],_=>Nat.zero_le _
 |x::l,h=>by
  have h1:=h x (by simp);have h2:=zvj (l:=l) fun z hz=>h z (qo _ hz)
  rw[List.flatMap_cons,qe,qk,Nat.add_mul,Nat.one_mul];omega
theorem y4j{p:Nat}:∀names:List ByteArray,(allY p names).length≤cntY p names.length
 |[]=>ql _
 | x::names=>by
  have h1:(allY p (x::names)).length≤(allY p names).length*(names.length+p+1):=zvj fun y hy=>by
   obtain⟨h1,h2⟩:=zts hy;rw[qk,y3y];omega
  exact Nat.le_trans h1 (Nat.mul_le_mul_right _ (y4j names))
theorem yes{p n:Nat}(hp:p≤4)(hn:n≤6):cntY p n≤151200:=by
 have key:∀p:Fin 5,∀n:Fin 7,cntY p.val n.val≤151200:=by decide
 exact key ⟨p,by omega⟩ ⟨n,by omega⟩
theorem y9y{x:ByteArray}{p:List ByteArray}(h:x∉p):FR [x] p=p:=y9z fun z hz e=>h (by rw[List.mem_singleton] at e;rw[←e];exact hz)
theorem y0c{x:ByteArray}{p:List ByteArray}:FR [x] (x::p)=FR [x] p:=by
 unfold FR;rw[List.filter_cons_of_neg];rw[z64.2 (by simp)];exact Bool.false_ne_true
theorem y6m{x z:ByteArray}{p:List ByteArray}(h:x≠z):FR [x] (z::p)=z::FR [x] p:=by
 unfold FR;rw[List.filter_cons_of_pos];cases e:hasB [x] z with
 |false=>rfl
 |true=>exact absurd (List.mem_singleton.1 (z64.1 e)).symm h
theorem zzg{x:ByteArray}:∀ {p:List ByteArray},p.Nodup→x∈p→p∈zso x (FR [x] p)
 |[],_,h=>by cases h
 | z::p,hn,h=>by
  rw[List.nodup_cons] at hn;by_cases e:x=z
  ·subst e;rw[y0c,y9y hn.1];cases p with
   |nil=>simp[zso]
   |cons u r=>simp[zso]
  ·have hx:x∈p:=(List.mem_cons.1 h).resolve_left e;rw[y6m e];simp only[zso,List.mem_cons,List.mem_map];exact .inr ⟨p,zzg hn.2 hx,rfl⟩
theorem y3x{x:ByteArray}:∀ {y:YdT},y.flatten.Nodup→x∈y.flatten→y∈insY x (y.map (FR [x]))
 |[],_,h=>by cases h
 | p::y,hn,h=>by
  rw[List.flatten_cons] at hn h;rw[List.nodup_append] at hn;simp only[List.map_cons,insY,List.mem_append,List.mem_map];by_cases hp:x∈p
  ·left;refine⟨p,zzg hn.1 hp,?_⟩;rw[znr fun z hz e => ?_];rw[List.mem_singleton] at e;exact hn.2.2 x hp z hz e.symm
  ·right;have hy:x∈y.flatten:=(List.mem_append.1 h).resolve_left hp;exact⟨y,by exact y3x hn.2.1 hy,by rw[y9y hp]⟩
theorem zxr{p:Nat}:∀ {names:List ByteArray} {y:YdT},y.length=p→y.flatten.Nodup→(∀x∈y.flatten,x∈names)→y∈allY p names
 |[],y,hl,_,hs=>by
  simp only[allY,List.mem_singleton];rw[List.eq_replicate_iff];refine⟨hl,fun q hq => ?_⟩;cases q with
  |nil=>rfl
  |cons z q=>exact absurd (hs z (List.mem_flatten.2 ⟨_,hq,by simp⟩)) (by simp)
 | x::names,y,hl,hn,hs=>by
  simp only[allY,List.mem_flatMap,List.mem_cons];by_cases hx:x∈y.flatten
  ·have e:(y.map (FR [x])).flatten=FR [x] y.flatten:=by
    unfold FR;rw[List.filter_flatten]
   refine⟨y.map (FR [x]),zxr (by rw[List.length_map];exact hl) (by rw[e];exact hn.filter _) ?_,.inr (y3x hn hx)⟩;intro z hz;rw[e] at hz;unfold FR at hz;rw[List.mem_filter] at hz;rcases List.mem_cons.1 (hs z hz.1) with rfl|h
   ·have:=hz.2;rw[z64.2 (by simp)] at this;cases this
   ·exact h
  ·refine⟨y,zxr hl hn fun z hz => ?_,.inl rfl⟩;rcases List.mem_cons.1 (hs z hz) with rfl|h
   ·exact absurd hz hx
   ·exact h
theorem ye5{names req:List ByteArray}{p:Nat}(hc:Cx names req p){done:List ByteArray}(hn:done.Nodup)(hd:∀s∈done,∃y:YdT,y.length=p∧y.flatten.Nodup∧(∀x∈y.flatten,x∈names)∧s=keyB y):done.length≤151200:=by
 have h1:done.length≤((allY p names).map keyB).length:=List.Nodup.length_le_of_subset hn fun s hs=>by
  obtain⟨y,e1,e2,e3,rfl⟩:=hd s hs;exact List.mem_map.2 ⟨y,zxr e1 e2 e3,rfl⟩
 rw[List.length_map] at h1;exact Nat.le_trans h1 (Nat.le_trans (y4j names) (yes hc.p4 hc.nl))
theorem y5r{ps qs:PutL}{k:Int}:z36 (ps++qs) k=z36 ps k++z36 qs k:=by
 unfold z36;rw[List.filter_append,List.map_append]
theorem za3{ps:PutL}{k:Int}{n:z2w}:n∈z36 ps k↔(k,n)∈ps:=by
 unfold z36;rw[List.mem_map];constructor
 ·rintro⟨⟨j,m⟩,h,rfl⟩;rw[List.mem_filter,beq_iff_eq] at h;obtain⟨h1,rfl⟩:=h;exact h1
 ·intro h;exact⟨(k,n),List.mem_filter.2 ⟨h,beq_self_eq_true _⟩,rfl⟩
theorem zzp:∀(l:PutL) (a:Int),a≤l.foldl (fun m e=>max m e.1) a∧∀e∈l,e.1≤l.foldl (fun m e=>max m e.1) a
 |[],a=>⟨Int.le_refl _,fun e h=>by cases h⟩
 |x::l,a=>by
  rw[List.foldl_cons];obtain⟨h1,h2⟩:=zzp l (max a x.1);refine⟨by omega,fun e he => ?_⟩;rcases List.mem_cons.1 he with rfl|he
  ·omega
  ·exact h2 e he
theorem ybe{ps:PutL}{e:Int×z2w}(h:e∈ps):e.1≤zcp ps:=(zzp ps 0).2 e h
structure NdOk (names req:List ByteArray) (p:Nat) (y0:YdT) (n:z2w):Prop where
 vd:Vd names req p (stN n)
 run:∃w:Nat,Run (y0,req) n.2.2.1 (stN n) w∧n.2.2.2=(w:Int)∧n.2.2.1.length+n.2.1.length=w+req.length
 nrm:y0b (stN n)
def Exp(ps:PutL)(n:z2w):Prop:=∀m s1,Stp (stN n) m s1 1→∃e∈ps,stN e.2=tS s1∧e.2.2.2.2=n.2.2.2+1
def Prd(ps:PutL)(e:Int×z2w):Prop:=e.2.2.1≠[]∧∃e'∈ps,stN e'.2=stN e.2∧e'.1≤e.1∧Exp ps e'.2
theorem Exp.mono{ps qs:PutL}{n:z2w}(h:Exp ps n)(hs:∀e∈ps,e∈qs):Exp qs n:=fun m s1 hm=>by
 obtain⟨e,he,h1,h2⟩:=h m s1 hm;exact⟨e,hs e he,h1,h2⟩
theorem Prd.mono{ps qs:PutL}{e:Int×z2w}(h:Prd ps e)(hs:∀e∈ps,e∈qs):Prd qs e:=by
 obtain⟨h0,e',h1,h2,h3,h4⟩:=h;exact⟨h0,e',hs e' h1,h2,h3,h4.mono hs⟩
structure Inv (names req:List ByteArray) (p:Nat) (y0:YdT) (k:Int) (i:Nat) (ps:PutL) (done:List ByteArray):Prop where
 ok:∀e∈ps,NdOk names req p y0 e.2∧e.1=e.2.2.2.2+(hS (stN e.2):Int)∧e.2.2.2.2≤(done.length:Int)
 dn:done.Nodup
 dk:∀s∈done,∃e∈ps,keyB e.2.1=s∧e.1≤k∧Exp ps e.2
 lo:∀e∈ps,e.1 < k→Prd ps e
 at_:∀j n,j < i→(z36 ps k)[j]?=some n→Prd ps (k,n)
 st:∃e∈ps,stN e.2=tS (y0,req)∧e.2.2.2.2=0
 ln:ps.length≤1+16*done.length
theorem Inv.keys{names req:List ByteArray}{p:Nat}{y0:YdT}{k:Int}{i:Nat}{ps:PutL}{done:List ByteArray}(hc:Cx names req p)(h:Inv names req p y0 k i ps done):done.length≤151200:=by
 refine ye5 hc h.dn fun s hs => ?_
 obtain⟨e,he,h1,_⟩:=h.dk s hs;have hv:=(h.ok e he).1.vd;exact⟨e.2.1,hv.len,hv.nd,hv.sub,h1.symm⟩
theorem y8p{names req:List ByteArray}{p:Nat}(hc:Cx names req p){n n':z2w}(h1:Vd names req p (stN n))(h2:Vd names req p (stN n'))(h:keyB n.1=keyB n'.1):stN n=stN n':=by
 have hy:n.1=n'.1:=ybj (h1.len.trans h2.len.symm) (fun x hx=>hc.nm x (h1.sub x hx)) (fun x hx=>hc.nm x (h2.sub x hx)) h;have hl:n.2.1=n'.2.1:=h1.left.trans (by rw[show(stN n).1=(stN n').1 from hy];exact h2.left.symm);show(n.1,n.2.1)=(n'.1,n'.2.1)
 rw[hy,hl]
theorem y7s{names req:List ByteArray}{p:Nat}(hc:Cx names req p){y0:YdT}{n:z2w}{ps:PutL}{w:Nat}(hv:Vd names req p (stN n))(hr:Run (y0,req) n.2.2.1 (stN n) w)(hw:n.2.2.2=(w:Int))(hl:n.2.2.1.length+n.2.1.length=w+req.length)(hb:w≤200000)(hp:ps.length≤100000000) :
  ∃t,putN ps n=some (ps++[(t.2.2.2+(hS (stN t):Int),t)])∧NdOk names req p y0 t∧stN t=tS (stN n)∧t.2.2.2=(w:Int):=by
 have h6:=hc.rl;obtain⟨l,h1,h2,h3⟩:=ya8 hc hv (by omega) (by omega);have hv2:=hv.run hc.rn h2;have hh:=hS_le hc hv2;have hst:stN ((tS (stN n)).1,(tS (stN n)).2,n.2.2.1++l,n.2.2.2)=tS (stN n):=rfl;have hbk:=ybz hc hv2;refine⟨((tS (stN n)).1,(tS (stN n)).2,n.2.2.1++l,n.2.2.2),?_,⟨hv2,⟨w,?_,hw,?_⟩,zr4 _⟩,hst,hw⟩
 ·unfold putN;rw[h1,qh];simp only;rw[hbk,qh];have hh':(blkA (tS (stN n)).2 (tS (stN n)).1).length≤6:=hh;rw[z01 (show 0≤n.2.2.2 by omega),z01 (show n.2.2.2≤4294967296 by omega),z01 hp,z01 (show(blkA (tS (stN n)).2 (tS (stN n)).1).length≤1000000 by omega)];rfl
 ·exact hr.append h2
 ·simp only[qe];omega
theorem zyk{names req:List ByteArray}{p:Nat}(hc:Cx names req p){y0:YdT}{n:z2w}(hn:NdOk names req p y0 n)(hb:n.2.2.2≤151200):∀ {ms:List (Int×Int)} {ps:PutL},(∀m∈ms,∃s1,Stp (stN n) m s1 1)→ps.length+ms.length≤100000000→
  ∃new,zei n ms ps=some (ps++new)∧new.length=ms.length∧(∀e∈new,NdOk names req p y0 e.2∧e.1=e.2.2.2.2+(hS (stN e.2):Int)∧e.2.2.2.2=n.2.2.2+1∧n.2.2.2+(hS (stN n):Int)≤e.1)∧∀m∈ms,∀s1,Stp (stN n) m s1 1→∃e∈new,stN e.2=tS s1∧e.2.2.2.2=n.2.2.2+1
 |[],ps,_,_=>⟨[],by simp[zei],rfl,fun e h=>(by cases h),fun m h=>(by cases h)⟩
 | m::ms,ps,hms,hl=>by
  obtain⟨s1,hs⟩:=hms m (by simp);obtain⟨w,r1,r2,r3⟩:=hn.run;have h6:=hc.rl;have hnx:=y1f hc hn.vd hs (by omega) (by omega);have hv1:=hn.vd.stp hc.rn hs;have hl1:s1.2.length=n.2.1.length:=by
   generalize hst:stN n=st at hs;cases hs with
   | @mv y left q x a b _ _ _ _=>
    have:n.2.1=left:=congrArg Prod.snd hst;rw[this]
  obtain⟨t,t1,t2,t3,t4⟩:=y7s hc (n:=(s1.1,s1.2,n.2.2.1++[m],n.2.2.2+((1:Nat):Int))) (ps:=ps) (w:=w+1) (y0:=y0) hv1 (r1.append (Run.one hs)) (by show n.2.2.2+((1:Nat):Int)=_;omega) (by simp only[qe,qj];omega) (by omega) (by simp only[qk] at hl;omega);obtain⟨new,g1,g2,g3,g4⟩:=zyk hc hn hb (ms:=ms) (ps:=ps++[(t.2.2.2+(hS (stN t):Int),t)]) (fun m' h'=>hms m' (qo _ h')) (by simp only[qe,qk,List.length_nil] at hl⊢;omega);have hw1:t.2.2.2=n.2.2.2+1:=by rw[t4,r2];omega
  have hh:hS (stN n)≤1+hS (stN t):=by
   have e1:=ye9 hn.vd.nd hs;obtain⟨l,e2,_⟩:=y6z s1;have e3:=yea hc.rn hv1 e2;rw[t3];show hS (stN n)≤1+hS (tS s1);omega
  refine⟨(t.2.2.2+(hS (stN t):Int),t)::new,?_,by simp[g2],?_,?_⟩
  ·simp only[zei];rw[hnx,qh,t1,qh,g1,List.append_assoc];rfl
  ·intro e he;rcases List.mem_cons.1 he with rfl|he
   ·exact⟨t2,rfl,hw1,by show _≤t.2.2.2+_;omega⟩
   ·exact g3 e he
  ·intro m' hm' s1' hs';rcases List.mem_cons.1 hm' with rfl|hm'
   ·obtain⟨e,_⟩:=hs.det hs';subst e;exact⟨_,List.mem_cons_self,t3,hw1⟩
   ·obtain⟨e,he,h1,h2⟩:=g4 m' hm' s1' hs';exact⟨e,qo _ he,h1,h2⟩
theorem zx1{names req:List ByteArray}{p:Nat}(hc:Cx names req p){y0:YdT}{k:Int}{i:Nat}{ps:PutL}{done:List ByteArray}(h:Inv names req p y0 k i ps done){n:z2w}(hn:(z36 ps k)[i]?=some n)(h0:n.2.1≠[])(hs:keyB n.1∈done):Inv names req p y0 k (i+1) ps done:=by
 refine⟨h.ok,h.dn,h.dk,h.lo,fun j n' hj hn' => ?_,h.st,h.ln⟩;by_cases e:j=i
 ·subst e;rw[hn] at hn';cases hn';obtain⟨e,he,h1,h2,h3⟩:=h.dk _ hs;have hmem:(k,n)∈ps:=za3.1 (List.mem_of_getElem? hn);exact⟨h0,e,he,y8p hc (h.ok e he).1.vd (h.ok _ hmem).1.vd h1,h2,h3⟩
 ·exact h.at_ j n' (by omega) hn'
theorem zx0{names req:List ByteArray}{p:Nat}(hc:Cx names req p){y0:YdT}{k:Int}{i:Nat}{ps:PutL}{done:List ByteArray}(h:Inv names req p y0 k i ps done){n:z2w}(hn:(z36 ps k)[i]?=some n)(h0:n.2.1≠[])(hs:keyB n.1∉done) :
  ∃qs,zei n (znq n.1) ps=some qs∧Inv names req p y0 k (i+1) qs (keyB n.1::done):=by
 have hmem:(k,n)∈ps:=za3.1 (List.mem_of_getElem? hn);obtain⟨hnd,hk,hw⟩:=h.ok _ hmem;simp only at hnd hk hw;have hkeys:=h.keys hc;have hml:=y5k hc hnd.vd;have hln:=h.ln;obtain⟨new,g1,g2,g3,g4⟩:=zyk hc hnd (by omega) (ms:=znq n.1) (ps:=ps) (fun m hm=>y5j hm) (by simp only at hml;omega);have hsub:∀e∈ps,e∈ps++new:=fun e he=>List.mem_append_left _ he
 have hexp:Exp (ps++new) n:=fun m s1 hm=>by
  obtain⟨e,he,h1,h2⟩:=g4 m (y4u hm) s1 hm;exact⟨e,List.mem_append_right _ he,h1,h2⟩
 refine⟨ps++new,g1,fun e he => ?_,List.nodup_cons.2 ⟨hs,h.dn⟩,fun s hs' => ?_,fun e he hlt => ?_,fun j n' hj hn' => ?_,?_,?_⟩
 ·rcases List.mem_append.1 he with he|he
  ·obtain⟨a1,a2,a3⟩:=h.ok e he;exact⟨a1,a2,by rw[qk];omega⟩
  ·obtain⟨a1,a2,a3,a4⟩:=g3 e he;exact⟨a1,a2,by rw[qk];omega⟩
 ·rcases List.mem_cons.1 hs' with rfl|hs'
  ·exact⟨(k,n),hsub _ hmem,rfl,Int.le_refl _,hexp⟩
  ·obtain⟨e,he,a1,a2,a3⟩:=h.dk s hs';exact⟨e,hsub _ he,a1,a2,a3.mono hsub⟩
 ·rcases List.mem_append.1 he with he|he
  ·exact(h.lo e he hlt).mono hsub
  ·obtain⟨a1,a2,a3,a4⟩:=g3 e he;omega
 ·have hil:=(qp.1 hn).1;rw[y5r,List.getElem?_append_left (by omega)] at hn';by_cases e:j=i
  ·subst e;rw[hn] at hn';cases hn';exact⟨h0,(k,n),hsub _ hmem,rfl,Int.le_refl _,hexp⟩
  ·exact(h.at_ j n' (by omega) hn').mono hsub
 ·obtain⟨e,he,a1,a2⟩:=h.st;exact⟨e,hsub _ he,a1,a2⟩
 ·simp only at hml;rw[qe,qk];omega
theorem ybm{names req:List ByteArray}{p:Nat}{y0:YdT}{k:Int}{i:Nat}{ps:PutL}{done:List ByteArray}(h:Inv names req p y0 k i ps done)(hi:(z36 ps k).length≤i):Inv names req p y0 (k+1) 0 ps done:=by
 refine⟨h.ok,h.dn,fun s hs => ?_,fun e he hlt => ?_,fun j n hj=>by omega,h.st,h.ln⟩
 ·obtain⟨e,he,a1,a2,a3⟩:=h.dk s hs;exact⟨e,he,a1,by omega,a3⟩
 ·by_cases hk:e.1 < k
  ·exact h.lo e he hk
  ·have e1:e=(k,e.2):=by
    have:e.1=k:=by omega
    rw[←this]
   rw[e1] at he⊢;obtain⟨j,hj,hj2⟩:=List.mem_iff_getElem.1 (za3.2 he);exact h.at_ j e.2 (by omega) (by rw[qr hj,hj2])
theorem gone{names req:List ByteArray}{p:Nat}(hc:Cx names req p){y0:YdT}{k:Int}{i:Nat}{ps:PutL}{done:List ByteArray}(h:Inv names req p y0 k i ps done){K:Int}(hK:∀e∈ps,e.1 < K→Prd ps e){t:StT}{w:Nat}(hr:TRun (tS (y0,req)) t w):(w:Int)+(hS t:Int) < K→∃e∈ps,stN e.2=t∧e.2.2.2.2≤(w:Int):=by
 induction hr with
 |nil=>
  intro _;obtain⟨e,he,h1,h2⟩:=h.st;exact⟨e,he,h1,by omega⟩
 | @snoc t t' w hr hs ih=>
  intro hlt;obtain⟨m,s1,hs1,rfl⟩:=hs;have hv:Vd names req p t∧True:=by
   obtain⟨e,he,h1,h2⟩:=h.st;have hv0:=(h.ok e he).1.vd;rw[h1] at hv0;clear hlt ih hs1;induction hr with
   |nil=>exact⟨hv0,trivial⟩
   |snoc hr hs ih=>
    obtain⟨m,s1,h1,rfl⟩:=hs;obtain⟨l,h2,_⟩:=y6z s1;exact⟨(ih.1.stp hc.rn h1).run hc.rn h2,trivial⟩
  have e1:=ye9 hv.1.nd hs1;obtain⟨l,e2,_⟩:=y6z s1;have e3:=yea hc.rn (hv.1.stp hc.rn hs1) e2;obtain⟨e,he,h1,h2⟩:=ih (by omega);obtain⟨_,hk,_⟩:=h.ok e he;rw[h1] at hk;obtain⟨_,e',he',g1,g2,g3⟩:=hK e he (by omega);obtain⟨_,hk',_⟩:=h.ok e' he';rw[g1,h1] at hk';rw[h1] at g1;obtain⟨e'',he'',f1,f2⟩:=g3 m s1 (by rw[g1];exact hs1);exact⟨e'',he'',f1,by omega⟩
def Best(req:List ByteArray)(y0:YdT)(r:List (Int×Int)×Bool):Prop:=
 (r.2=true→∃s' w,Run (y0,req) r.1 s' w∧s'.2=[]∧r.1.length=w+req.length∧∀l s c,Run (y0,req) l s c→s.2=[]→w≤c)∧
 (r.2=false→r.1=[]∧∀l s c,Run (y0,req) l s c→s.2≠[])
theorem zkg{names req:List ByteArray}{p:Nat}(hc:Cx names req p){y0:YdT}{k:Int}{N:Nat}{ps:PutL}{done:List ByteArray}{i:Nat}{r:(PutL×List ByteArray)⊕List (Int×Int)}(hr:zh7 k N ps done i r):Inv names req p y0 k i ps done→
  (∀qs d,r = .inl (qs,d)→Inv names req p y0 (k+1) 0 qs d)∧∀l,r = .inr l→∃qs d i' n,Inv names req p y0 k i' qs d∧(k,n)∈qs∧n.2.1=[]∧n.2.2.1=l:=by
 induction hr with
 |stop h=>
  intro hi;exact⟨fun qs d e=>(by cases e;exact ybm hi h),fun l e=>(by cases e)⟩
 | @goal N ps done i n h1 h2=>
  intro hi;exact⟨fun qs d e=>(by cases e),fun l e=>by cases e;exact⟨ps,done,i,n,hi,za3.1 (List.mem_of_getElem? h1),h2,rfl⟩⟩
 | @skip N ps done i n s r h1 h2 h3 h4 _ ih=>
  intro hi;have hv:=(hi.ok _ (za3.1 (List.mem_of_getElem? h1))).1.vd;rw[zze (hv.few hc)] at h3;cases h3;exact ih (zx1 hc hi h1 h2 h4)
 | @turn N ps qs done i n s ms r h1 h2 h3 h4 h5 h6 h7 _ ih=>
  intro hi;have hv:=(hi.ok _ (za3.1 (List.mem_of_getElem? h1))).1.vd;rw[zze (hv.few hc)] at h3;cases h3;have hlen:=hv.len;have hp4:=hc.p4;rw[zz2 (by simp only at hlen;omega)] at h6;cases h6;obtain⟨qs',g1,g2⟩:=zx0 hc hi h1 h2 h4;rw[g1] at h7;cases h7;exact ih g2
theorem zym{names req:List ByteArray}{p:Nat}(hc:Cx names req p){y0:YdT}(hv0:Vd names req p (y0,req)){N:Nat}{ps:PutL}{done:List ByteArray}{k:Nat}{r:List (Int×Int)×Bool}(hr:zk3 N ps done k r):Inv names req p y0 (k:Int) 0 ps done→Best req y0 r:=by
 induction hr with
 | @stop N ps done k hlt=>
  intro hi;refine⟨fun e=>(by cases e),fun _=>⟨rfl,fun l s c hl h0 => ?_⟩⟩;obtain⟨t',j,h1,h2,h3⟩:=sim0 hc.rn hl hv0 h0;have hall:∀e∈ps,Prd ps e:=fun e he=>hi.lo e he (by have:=ybe he;omega)
  obtain⟨e,he,g1,g2⟩:=gone hc hi (K:=(j:Int)+(hS t':Int)+1) (fun e he _=>hall e he) h1 (by omega);have:e.2.2.1=[]:=by
   have:=congrArg Prod.snd g1;exact this.trans h3
  exact(hall e he).1 this
 | @goal N K ps done k l hle hin=>
  intro hi;obtain⟨qs,d,i',n,h1,h2,h3,rfl⟩:=(zkg hc hin hi).2 _ rfl;obtain⟨hnd,hk,_⟩:=h1.ok _ h2;obtain⟨w,r1,r2,r3⟩:=hnd.run;simp only at hk r1 r2 r3;have hz:hS (stN n)=0:=by
   show hL n.2.1 n.1=0;rw[h3];exact yeb _
  refine⟨fun _=>⟨stN n,w,r1,h3,by rw[h3,List.length_nil] at r3;omega,fun l s c hl h0 => ?_⟩,fun e=>by cases e⟩;obtain⟨t',j,f1,f2,f3⟩:=sim0 hc.rn hl hv0 h0;have hz':hS t'=0:=by
   show hL t'.2 t'.1=0;rw[f3];exact yeb _
  rcases Nat.lt_or_ge c w with hlt|hge
  ·exfalso;obtain⟨e,he,g1,g2⟩:=gone hc h1 (K:=(k:Int)) h1.lo f1 (by omega);obtain⟨_,hk2,_⟩:=h1.ok e he;rw[g1] at hk2;have:e.2.2.1=[]:=by
    have:=congrArg Prod.snd g1;exact this.trans f3
   exact(h1.lo e he (by omega)).1 this
  ·exact hge
 | @next N K ps qs done done' k r hle hin _ ih=>
  intro hi;have:=(zkg hc hin hi).1 _ _ rfl;exact ih (by rw[show((k+1:Nat):Int)=(k:Int)+1 by omega];exact this)
theorem zpv{names req:List ByteArray}{p:Nat}(hc:Cx names req p){y0:YdT}{k:Int}:∀(u:Nat) {ps:PutL} {done:List ByteArray},151200-done.length≤u→∀(j:Nat) {i:Nat},(z36 ps k).length-i≤j→Inv names req p y0 k i ps done→∃N r,zh7 k N ps done i r:=by
 intro u;induction u with
 | zero=>
  intro ps done hu j;induction j with
  |zero=>intro i hj hi;exact⟨0,_,.stop (by omega)⟩
  | succ j ih=>
   intro i hj hi;rcases Nat.lt_or_ge i (z36 ps k).length with hlt|hge
   ·have hn:=qr hlt;generalize (z36 ps k)[i]=n at hn;have hv:=(hi.ok _ (za3.1 (List.mem_of_getElem? hn))).1.vd;by_cases h0:n.2.1=[]
    ·exact⟨0,_,.goal hn h0⟩
    ·by_cases hs:keyB n.1∈done
     ·obtain⟨N,r,h⟩:=ih (i:=i+1) (by omega) (zx1 hc hi hn h0 hs);exact⟨N+1,r,.skip hn h0 (zze (hv.few hc)) hs h⟩
     ·exfalso;obtain⟨qs,g1,g2⟩:=zx0 hc hi hn h0 hs;have:=g2.keys hc;rw[qk] at this;omega
   ·exact⟨0,_,.stop hge⟩
 | succ u ihu=>
  intro ps done hu j;induction j with
  |zero=>intro i hj hi;exact⟨0,_,.stop (by omega)⟩
  | succ j ih=>
   intro i hj hi;rcases Nat.lt_or_ge i (z36 ps k).length with hlt|hge
   ·have hn:=qr hlt;generalize (z36 ps k)[i]=n at hn;have hv:=(hi.ok _ (za3.1 (List.mem_of_getElem? hn))).1.vd;by_cases h0:n.2.1=[]
    ·exact⟨0,_,.goal hn h0⟩
    ·by_cases hs:keyB n.1∈done
     ·obtain⟨N,r,h⟩:=ih (i:=i+1) (by omega) (zx1 hc hi hn h0 hs);exact⟨N+1,r,.skip hn h0 (zze (hv.few hc)) hs h⟩
     ·obtain⟨qs,g1,g2⟩:=zx0 hc hi hn h0 hs;have hkl:=g2.keys hc;obtain⟨N,r,h⟩:=ihu (ps:=qs) (done:=keyB n.1::done) (by rw[qk] at hkl⊢;omega) _ (ql _) g2;have hlen:=hv.len;have hp4:=hc.p4;have:=hi.keys hc;exact⟨N+1,r,.turn hn h0 (zze (hv.few hc)) hs (by omega) (zz2 (by simp only at hlen;omega)) g1 h⟩
   ·exact⟨0,_,.stop hge⟩
theorem zrz{k:Int}{N:Nat}{ps:PutL}{done:List ByteArray}{i:Nat}{r:(PutL×List ByteArray)⊕List (Int×Int)}(hr:zh7 k N ps done i r):∀qs d,r = .inl (qs,d)→(qs=ps∧d=done)∨done.length < d.length:=by
 induction hr with
 |stop _=>intro qs d e;cases e;exact .inl ⟨rfl,rfl⟩
 |goal _ _=>intro qs d e;cases e
 |skip _ _ _ _ _ ih=>exact ih
 |turn _ _ _ _ _ _ _ _ ih=>
  intro qs d e;right;rcases ih qs d e with⟨_,rfl⟩|h
  ·rw[qk];omega
  ·rw[qk] at h;omega
theorem zwl{names req:List ByteArray}{p:Nat}(hc:Cx names req p){y0:YdT}:∀(u:Nat) {ps:PutL} {done:List ByteArray},151200-done.length≤u→∀(j:Nat) {k:Nat},(zcp ps+1-(k:Int)).toNat≤j→Inv names req p y0 (k:Int) 0 ps done→∃N r,zk3 N ps done k r:=by
 intro u;induction u with
 | zero=>
  intro ps done hu j;induction j with
  |zero=>intro k hj hi;exact⟨0,_,.stop (by omega)⟩
  | succ j ih=>
   intro k hj hi;by_cases hle:(k:Int)≤zcp ps
   ·obtain⟨K,r,hin⟩:=zpv hc _ (ql _) _ (ql _) hi;cases r with
    |inr l=>exact⟨0,_,.goal hle hin⟩
    | inl q=>
     obtain⟨qs,d⟩:=q;have hnx:=(zkg hc hin hi).1 _ _ rfl;rw[show(k:Int)+1=((k+1:Nat):Int) by omega] at hnx;rcases zrz hin _ _ rfl with⟨rfl,rfl⟩|hlt
     ·obtain⟨N,r,h⟩:=ih (k:=k+1) (by omega) hnx;exact⟨N+1,r,.next hle hin h⟩
     ·have:=hnx.keys hc;omega
   ·exact⟨0,_,.stop (by omega)⟩
 | succ u ihu=>
  intro ps done hu j;induction j with
  |zero=>intro k hj hi;exact⟨0,_,.stop (by omega)⟩
  | succ j ih=>
   intro k hj hi;by_cases hle:(k:Int)≤zcp ps
   ·obtain⟨K,r,hin⟩:=zpv hc _ (ql _) _ (ql _) hi;cases r with
    |inr l=>exact⟨0,_,.goal hle hin⟩
    | inl q=>
     obtain⟨qs,d⟩:=q;have hnx:=(zkg hc hin hi).1 _ _ rfl;rw[show(k:Int)+1=((k+1:Nat):Int) by omega] at hnx;rcases zrz hin _ _ rfl with⟨rfl,rfl⟩|hlt
     ·obtain⟨N,r,h⟩:=ih (k:=k+1) (by omega) hnx;exact⟨N+1,r,.next hle hin h⟩
     ·have:=hnx.keys hc;obtain⟨N,r,h⟩:=ihu (ps:=qs) (done:=d) (by omega) _ (ql _) hnx;exact⟨N+1,r,.next hle hin h⟩
   ·exact⟨0,_,.stop (by omega)⟩
theorem ydq{names req:List ByteArray}{p:Nat}(hc:Cx names req p){y0:YdT}(hv0:Vd names req p (y0,req)):∃r,z8l y0 req=some r∧Best req y0 r:=by
 obtain⟨t,t1,t2,t3,t4⟩:=y7s hc (n:=(y0,req,[],0)) (ps:=[]) (w:=0) (y0:=y0) hv0 (.nil _) rfl (by simp) (by omega) (by simp);have hi:Inv names req p y0 ((0:Nat):Int) 0 [(t.2.2.2+(hS (stN t):Int),t)] []:=by
  refine⟨fun e he => ?_,List.nodup_nil,fun s hs=>(by cases hs),fun e he hlt => ?_,fun j n hj=>by omega,⟨_,List.mem_singleton.2 rfl,t3,by exact t4⟩,by simp⟩
  ·rw[List.mem_singleton] at he;subst he;exact⟨t2,rfl,by show t.2.2.2≤_;rw[t4];simp⟩
  ·rw[List.mem_singleton] at he;subst he;exfalso;have:t.2.2.2+(hS (stN t):Int) < ((0:Nat):Int):=hlt;rw[t4] at this;omega
 have hput:putN [] (y0,req,[],0)=some [(t.2.2.2+(hS (stN t):Int),t)]:=t1;obtain⟨N,r,hout⟩:=zwl hc _ (ql _) _ (ql _) hi;have hex:∃r,zxt y0 req r:=⟨r,_,N,hput,hout⟩
 refine⟨Classical.choose hex,?_,?_⟩
 ·unfold z8l;rw[dif_pos hex]
 ·obtain⟨ps,N',h1,h2⟩:=Classical.choose_spec hex;rw[hput] at h1;cases h1;exact zym hc hv0 h2 hi
end Go.Lift
