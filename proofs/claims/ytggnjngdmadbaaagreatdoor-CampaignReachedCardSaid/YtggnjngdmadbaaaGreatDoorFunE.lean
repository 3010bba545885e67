/-
  The chapter's examples.
-/
import Derived.Test.YtggnjngdmadbaaaGreatDoorPlainA
import Derived.KernelRfl
noncomputable section
set_option linter.unusedSectionVars false
set_option linter.unusedVariables false
set_option linter.unusedSimpArgs false
namespace Go.Lift
open Go
def Lq{A:Type}(a b:Option A):Prop:=∀v,a=some v→b=some v
theorem z0e{A:Type}(a:Option A):Lq a a:=fun _ h=>h
theorem z0i{A B:Type}{a a':Option A}{f f':A→Option B}(h:Lq a a')(k:∀x,Lq (f x) (f' x)):Lq (a.bind f) (a'.bind f'):=by
 intro v hv;obtain⟨x,hx,hf⟩:=qi.1 hv;exact qi.2 ⟨x,h x hx,k x v hf⟩
theorem z0n{A:Type}{c:Bool}{a a' b b':Option A}(h:Lq a a')(k:Lq b b'):Lq (bif c then a else b) (bif c then a' else b'):=by
 cases c<;>assumption
theorem z1v{A:Type}{c:Bool}{a a':Option A}(h:Lq a a'):Lq (chk c a) (chk c a'):=by
 unfold chk;exact z0n h (z0e _)
theorem z1u{A B:Type}{g:A→B}{a a':Option A}(h:Lq a a'):Lq (Option.map g a) (Option.map g a'):=by
 intro v hv;obtain⟨x,hx,hf⟩:=Option.map_eq_some_iff.1 hv;exact Option.map_eq_some_iff.2 ⟨x,h x hx,hf⟩
def zda{S R:Type}(f:S→Option (S⊕R))(s:S):Option R:=zf2 f 300 s
theorem y3o{S R:Type}{f f':S→Option (S⊕R)}(h:∀s,Lq (f s) (f' s)):∀(n:Nat) (s:S),Lq (zf2 f n s) (zf2 f' n s)
 |0,s=>fun v hv=>by simp[zf2] at hv
 | n+1,s=>fun v hv=>by
  unfold zf2 at hv⊢;cases hf:f s with
  |none=>rw[hf] at hv;cases hv
  |some j=>
   rw[hf] at hv;rw[h s j hf];cases j with
   |inl s'=>exact y3o h n s' v hv
   |inr r=>exact hv
theorem z11{S R:Type}{f f':S→Option (S⊕R)}{s:S}(h:∀s,Lq (f s) (f' s)):Lq (zda f s) (z2l f' s):=
 fun _ hv=>zwv (y3o h 300 s _ hv)
theorem z0g{A B C:Type}{f g:A⊕B→Option C}(h1:∀a,Lq (f (.inl a)) (g (.inl a)))(h2:∀b,Lq (f (.inr b)) (g (.inr b))):∀j,Lq (f j) (g j):=by
 intro j;cases j with
 |inl a=>exact h1 a
 |inr b=>exact h2 b
def y0m(a b:ByteArray):Bool:=a.data.toList == b.data.toList
def catE(a b:ByteArray):Option ByteArray:=if a.size+b.size≤4294967296 then some ⟨(a.data.toList++b.data.toList).toArray⟩ else none
theorem zr2(b:ByteArray):b.toList=b.data.toList:=by
 have h:∀(n i:Nat) (r:List UInt8),b.size-i=n→ByteArray.toList.loop b i r=r.reverse++b.data.toList.drop i:=by
  intro n;induction n with
  |zero=>
   intro i r hn;unfold ByteArray.toList.loop;rw[if_neg (by omega),List.drop_eq_nil_of_le (show b.data.toList.length≤i by show b.size≤i;omega),List.append_nil]
  | succ n ih=>
   intro i r hn;unfold ByteArray.toList.loop;have hi:i < b.size:=by omega
   rw[if_pos hi,ih (i+1) _ (by omega)];have hi2:i < b.data.toList.length:=hi;rw[List.drop_eq_getElem_cons hi2,List.reverse_cons,List.append_assoc];congr 1
   show[b.get! i]++_=_;have:b.get! i=b.data.toList[i]:=by
    unfold ByteArray.get!;show b.data[i]! = _;rw[getElem!_pos b.data i hi];rfl
   rw[this];rfl
 have:=h b.size 0 [] rfl;rw[List.reverse_nil,List.nil_append,List.drop_zero] at this;exact this
theorem zrf(a b:ByteArray):seqb a b=y0m a b:=by unfold seqb y0m;rw[zr2,zr2]
theorem z1w(a b:ByteArray):Lq (catE a b) (cat a b):=by
 intro v hv;unfold catE at hv;unfold cat
 split at hv
 ·rename_i h;rw[if_pos h];rw[←hv];congr 1
 ·cases hv
def zgk(n:Int):Option ByteArray:=
 bif n == 3 then some (bytes [51]) else bif n == 5 then some (bytes [53]) else bif n == 12 then some (bytes [49,50]) else bif n == 50 then some (bytes [53,48]) else bif n == 1200 then some (bytes [49,50,48,48]) else none
theorem zsk(n:Int):Lq (zgk n) (strconv_Itoa n):=by
 intro v hv;unfold zgk at hv;by_cases h3:n=3
 ·subst h3;have e:some (bytes [51])=some v:=hv;rw[←e];simp[strconv_Itoa,Lib.itoa,Lib.decDigits,bytes]
 rw[show(n == 3)=false by rw[beq_eq_false_iff_ne];exact h3,cond_false] at hv;by_cases h5:n=5
 ·subst h5;have e:some (bytes [53])=some v:=hv;rw[←e];simp[strconv_Itoa,Lib.itoa,Lib.decDigits,bytes]
 rw[show(n == 5)=false by rw[beq_eq_false_iff_ne];exact h5,cond_false] at hv;by_cases h12:n=12
 ·subst h12;have e:some (bytes [49,50])=some v:=hv;rw[←e];simp[strconv_Itoa,Lib.itoa,Lib.decDigits,bytes]
 rw[show(n == 12)=false by rw[beq_eq_false_iff_ne];exact h12,cond_false] at hv;by_cases h50:n=50
 ·subst h50;have e:some (bytes [53,48])=some v:=hv;rw[←e];simp[strconv_Itoa,Lib.itoa,Lib.decDigits,bytes]
 rw[show(n == 50)=false by rw[beq_eq_false_iff_ne];exact h50,cond_false] at hv;by_cases h1200:n=1200
 ·subst h1200;have e:some (bytes [49,50,48,48])=some v:=hv;rw[←e];simp[strconv_Itoa,Lib.itoa,Lib.decDigits,bytes]
 rw[show(n == 1200)=false by rw[beq_eq_false_iff_ne];exact h1200,cond_false] at hv;cases hv
def zly(s:ByteArray):Option (Int×Bool):=strconv_Atoi s
theorem zsl(s:ByteArray):Lq (zly s) (strconv_Atoi s):=z0e _
def z0s(n:Int)(lo:Int)(hi:Int):Option (Bool):=
 let t:Bool:=((decide (lo≤n))&&(decide (n≤hi)))
 some t
theorem z1h(n:Int)(lo:Int)(hi:Int):Lq (z0s n lo hi) (z0m n lo hi):=by
 unfold z0s z0m;repeat' with_reducible first|exact z0e _|apply z1w|apply z0i|apply z11|apply z0n|apply z1v|apply z1u|(refine z0g (fun _ => ?_) (fun _ => ?_)<;>dsimp only)|(intro _;try dsimp only)|dsimp only
def z58(s:ByteArray):Option (Bool):=
 (zda (S:=Int) (R:=(Unit)⊕(Bool)) (fun t=>
 bif decide (t < (List.length (z3k s):Int)) then
 chk (decide ((0:Int)≤t)&&decide (t < (List.length (z3k s):Int))) (
 let c:Int:=lget 0 (z3k s) t
 (z0s (wi64 c) 97 122).bind fun(t_1:Bool)=>
 (bif t_1 then some true else
 (z0s (wi64 c) 65 90).bind fun(t_2:Bool)=>
 some t_2).bind fun(c_1:Bool)=>
 (bif !c_1 then
 (bif (t == 0) then some true else
 (bif (c != 45) then
 (z0s (wi64 c) 48 57).bind fun(t_3:Bool)=>
 some (!t_3)
 else some false).bind fun(c_2:Bool)=>
 some c_2).bind fun(c_3:Bool)=>
 some c_3
 else some false).bind fun(c_4:Bool)=>
 bif c_4 then
 Option.map Sum.inr (Option.map Sum.inr (
 some false))
 else
 some (.inl (wi64 (t+1))))
 else
 some (.inr (.inl ()))) 0).bind fun j=>match j with
 |.inl _=>(
 (z0s (ByteArray.size s:Int) 1 12).bind fun(t_4:Bool)=>
 some t_4)
 |.inr r=>some r
theorem z7j(s:ByteArray):Lq (z58 s) (z1o s):=by
 unfold z58 z1o;repeat' with_reducible first|exact z0e _|apply z1h|apply z1w|apply z0i|apply z11|apply z0n|apply z1v|apply z1u|(refine z0g (fun _ => ?_) (fun _ => ?_)<;>dsimp only)|(intro _;try dsimp only)|dsimp only
def z5y(n:Int):Option (Bool):=
 (z0s n 1 99).bind fun(t:Bool)=>
 some t
theorem z9r(n:Int):Lq (z5y n) (z4k n):=by
 unfold z5y z4k;repeat' with_reducible first|exact z0e _|apply z1h|apply z1w|apply z0i|apply z11|apply z0n|apply z1v|apply z1u|(refine z0g (fun _ => ?_) (fun _ => ?_)<;>dsimp only)|(intro _;try dsimp only)|dsimp only
def z3z(n:Int):Option (Bool):=
 (z0s n 1 300000).bind fun(t:Bool)=>
 some t
theorem z6p(n:Int):Lq (z3z n) (z2y n):=by
 unfold z3z z2y;repeat' with_reducible first|exact z0e _|apply z1h|apply z1w|apply z0i|apply z11|apply z0n|apply z1v|apply z1u|(refine z0g (fun _ => ?_) (fun _ => ?_)<;>dsimp only)|(intro _;try dsimp only)|dsimp only
def z5x(n:Int):Option (Bool):=
 (z0s n 500 2500).bind fun(t:Bool)=>
 some t
theorem z9q(n:Int):Lq (z5x n) (z4j n):=by
 unfold z5x z4j;repeat' with_reducible first|exact z0e _|apply z1h|apply z1w|apply z0i|apply z11|apply z0n|apply z1v|apply z1u|(refine z0g (fun _ => ?_) (fun _ => ?_)<;>dsimp only)|(intro _;try dsimp only)|dsimp only
def z8n(n:Int):Option (Bool):=
 (z0s n 0 20000).bind fun(t:Bool)=>
 some t
theorem znv(n:Int):Lq (z8n n) (z6c n):=by
 unfold z8n z6c;repeat' with_reducible first|exact z0e _|apply z1h|apply z1w|apply z0i|apply z11|apply z0n|apply z1v|apply z1u|(refine z0g (fun _ => ?_) (fun _ => ?_)<;>dsimp only)|(intro _;try dsimp only)|dsimp only
def z0j(is:Bool)(e:Int):Option (Int):=
 bif is then
 some 0
 else
 some e
theorem z32(is:Bool)(e:Int):Lq (z0j is e) (z0c is e):=by
 unfold z0j z0c;repeat' with_reducible first|exact z0e _|apply z1w|apply z0i|apply z11|apply z0n|apply z1v|apply z1u|(refine z0g (fun _ => ?_) (fun _ => ?_)<;>dsimp only)|(intro _;try dsimp only)|dsimp only
def z2o(l:(List Int)):Option (Int):=
 (zda (S:=Int) (R:=(Unit)⊕(Int)) (fun t=>
 bif decide (t < (List.length l:Int)) then
 chk (decide ((0:Int)≤t)&&decide (t < (List.length l:Int))) (
 bif ((lget 0 l t) != 0) then
 Option.map Sum.inr (Option.map Sum.inr (
 some (lget 0 l t)))
 else
 some (.inl (wi64 (t+1))))
 else
 some (.inr (.inl ()))) 0).bind fun j=>match j with
 |.inl _=>(
 some 0)
 |.inr r=>some r
theorem z43(l:(List Int)):Lq (z2o l) (z1e l):=by
 unfold z2o z1e;repeat' with_reducible first|exact z0e _|apply z1w|apply z0i|apply z11|apply z0n|apply z1v|apply z1u|(refine z0g (fun _ => ?_) (fun _ => ?_)<;>dsimp only)|(intro _;try dsimp only)|dsimp only
def z5z(o:z00):Option (Int):=
 (z5y o.2.1).bind fun(t:Bool)=>
 (bif t then
 (z3z o.2.2.1).bind fun(t_1:Bool)=>
 some t_1
 else some false).bind fun(c:Bool)=>
 (bif c then
 (z0s o.2.2.2.1 0 (wi64 (o.2.2.1-1))).bind fun(t_2:Bool)=>
 some t_2
 else some false).bind fun(c_1:Bool)=>
 (bif c_1 then
 (z5x o.2.2.2.2.1).bind fun(t_3:Bool)=>
 some t_3
 else some false).bind fun(c_2:Bool)=>
 (bif c_2 then
 (z8n o.2.2.2.2.2.1.1).bind fun(t_4:Bool)=>
 some t_4
 else some false).bind fun(c_3:Bool)=>
 (bif c_3 then
 (z8n o.2.2.2.2.2.1.2).bind fun(t_5:Bool)=>
 some t_5
 else some false).bind fun(c_4:Bool)=>
 (z58 o.1).bind fun(t_6:Bool)=>
 (z0j t_6 4).bind fun(t_7:Int)=>
 (z0j c_4 2).bind fun(t_8:Int)=>
 (z0j (decide (o.2.2.2.2.2.1.1≤o.2.2.2.2.2.1.2)) 9).bind fun(t_9:Int)=>
 chk (10 != 0) (
 let t_10:Int:=Int.tmod o.2.2.2.2.2.1.1 10
 (bif (t_10 == 0) then
 chk (10 != 0) (
 let t_11:Int:=Int.tmod o.2.2.2.2.2.1.2 10
 some (t_11 == 0))
 else some false).bind fun(c_5:Bool)=>
 (z0j c_5 3).bind fun(t_12:Int)=>
 (z0s o.2.2.2.2.2.2 0 100000).bind fun(t_13:Bool)=>
 (z0j t_13 2).bind fun(t_14:Int)=>
 (z2o [t_7,t_8,t_9,t_12,t_14]).bind fun(t_15:Int)=>
 some t_15)
theorem zbo(o:z00):Lq (z5z o) (z1k o):=by
 unfold z5z z1k;repeat' with_reducible first|exact z0e _|apply z1h|apply z7j|apply z9r|apply z6p|apply z9q|apply znv|apply z32|apply z43|apply z1w|apply z0i|apply z11|apply z0n|apply z1v|apply z1u|(refine z0g (fun _ => ?_) (fun _ => ?_)<;>dsimp only)|(intro _;try dsimp only)|dsimp only
def zc9(s:ByteArray):Option (Int×Bool):=
 (zly s).bind fun(r:Int×Bool)=>
 (bif (r.2&&(decide (r.1≥0))) then
 (zgk r.1).bind fun(t:ByteArray)=>
 some (y0m t s)
 else some false).bind fun(c:Bool)=>
 let t_1:Bool:=(c&&(decide ((ByteArray.size s:Int)≤6)))
 some (r.1,t_1)
theorem znu(s:ByteArray):Lq (zc9 s) (z6b s):=by
 unfold zc9 z6b;try simp only[zrf]
 repeat' with_reducible first|exact z0e _|apply zsl|apply zsk|apply z1w|apply z0i|apply z11|apply z0n|apply z1v|apply z1u|(refine z0g (fun _ => ?_) (fun _ => ?_)<;>dsimp only)|(intro _;try dsimp only)|dsimp only
def zkz(ws:List ByteArray)(i:Int):Option (Option Int):=(zc9 (z17 ws i)).bind fun r=>some (bif r.2 then some r.1 else none)
theorem zmc(ws:List ByteArray)(i:Int):Lq (zkz ws i) (zdx ws i):=z0i (znu _) fun _=>z0e _
def zxw(us:List (ByteArray×Int))(ws:List ByteArray)(i:Int):Option Int:=if i < (ws.length:Int) then(us.find? fun p=>y0m (z17 ws i) p.1).map (·.2) else none
theorem y2o(us:List (ByteArray×Int))(ws:List ByteArray)(i:Int):zbk us ws i=zxw us ws i:=by
 unfold zbk zxw y2s;simp only[zrf]
def zl2(w:ByteArray):Option Nat:=zc3.findIdx? fun c=>y0m c w
theorem zxx(w:ByteArray):z8j w=zl2 w:=by
 unfold z8j zl2;simp only[zrf]
def z8a(us:List (ByteArray×Int))(ws:List ByteArray)(i:Int):Option (Int⊕Int):=
 (zkz ws i).bind fun n=>match n with
  |none=>some (.inl i)
  |some n=>match zxw us ws (i+1) with
   |none=>some (.inl (i+1))
   |some b=>some (.inr (wi64 (n*b)))
theorem zaq(us:List (ByteArray×Int))(ws:List ByteArray)(i:Int):Lq (z8a us ws i) (z5m us ws i):=by
 unfold z5m z8a;simp only[y2o];exact z0i (zmc _ _) fun _=>z0e _
def zw2(k:Nat)(ws:List ByteArray)(o:z00)(i:Int):Option (Int⊕(z00×Int)):=
 match k with
 |0=>(zkz ws i).bind fun n=>match n with
  |none=>some (.inl i)
  |some n=>some (.inr ((o.1,(n,o.2.2)),i+1))
 |1=>(z8a zlj ws i).bind fun v=>match v with
  |.inl j=>some (.inl j)
  |.inr v=>some (.inr ((o.1,(o.2.1,(v,o.2.2.2))),i+2))
 |2=>(z8a zlj ws i).bind fun v=>match v with
  |.inl j=>some (.inl j)
  |.inr v=>some (.inr ((o.1,(o.2.1,(o.2.2.1,(v,o.2.2.2.2)))),i+2))
 |3=>(z8a unMm ws i).bind fun v=>match v with
  |.inl j=>some (.inl j)
  |.inr v=>some (.inr ((o.1,(o.2.1,(o.2.2.1,(o.2.2.2.1,(v,o.2.2.2.2.2))))),i+2))
 | 4=>(z8a unTo ws i).bind fun v=>match v with
  |.inl j=>some (.inl j)
  |.inr v=>(z8a unC ws (i+2)).bind fun u=>match u with
   |.inl j=>some (.inl j)
   |.inr u=>some (.inr ((o.1,(o.2.1,(o.2.2.1,(o.2.2.2.1,(o.2.2.2.2.1,((v,u),o.2.2.2.2.2.2)))))),i+4))
 |_=>(zkz ws i).bind fun n=>match n with
  |none=>some (.inl i)
  |some n=>some (.inr ((o.1,(o.2.1,(o.2.2.1,(o.2.2.2.1,(o.2.2.2.2.1,(o.2.2.2.2.2.1,n)))))),i+1))
theorem y1r(k:Nat)(ws:List ByteArray)(o:z00)(i:Int):Lq (zw2 k ws o i) (zwj k ws o i):=by
 match k with
 |0=>exact z0i (zmc _ _) fun _=>z0e _
 |1=>exact z0i (zaq _ _ _) fun _=>z0e _
 |2=>exact z0i (zaq _ _ _) fun _=>z0e _
 |3=>exact z0i (zaq _ _ _) fun _=>z0e _
 |4=>
  refine z0i (zaq _ _ _) fun v => ?_
  cases v with
  |inl _=>exact z0e _
  |inr _=>exact z0i (zaq _ _ _) fun _=>z0e _
 |k+5=>exact z0i (zmc _ _) fun _=>z0e _
def zi4(ws:List ByteArray):Nat→z00→Int→(Nat→Bool)→Option ((Int×Int)⊕(z00×(Nat→Bool)))
 |0,_,_,_=>none
 | n+1,o,i,given=>if i < (ws.length:Int) then match zl2 (z17 ws i) with
   |none=>some (.inl (i,7))
   |some k=>bif given k then some (.inl (i,23)) else(zw2 k ws o (i+1)).bind fun r=>match r with
    |.inl j=>some (.inl (j,7))
    |.inr r=>zi4 ws n r.1 r.2 (upd given k true)
  else some (.inr (o,given))
theorem zq0(ws:List ByteArray):∀(n:Nat) (o:z00) (i:Int) (given:Nat→Bool),Lq (zi4 ws n o i given) (zeh ws n o i given)
 |0,_,_,_=>z0e _
 | n+1,o,i,given=>by
  unfold zi4 zeh;rw[zxx];split
  ·cases zl2 (z17 ws i) with
   |none=>exact z0e _
   |some k=>
    refine z0n (z0e _) (z0i (y1r _ _ _ _) fun r => ?_);cases r with
    |inl _=>exact z0e _
    |inr r=>exact zq0 ws n _ _ _
  ·exact z0e _
def z8d(s:ByteArray):Option (z00×Int×Int):=
 (strings_Split s (bytes [32])).bind fun ws=>(z58 (z17 ws 0)).bind fun is=>bif !is then some (z3d,0,7) else
  (zi4 ws (ws.length+1) (z17 ws 0,(0,(0,(0,(0,((0,20000),0)))))) 1 (fun _=>false)).bind fun r=>match r with
   |.inl f=>some (z3d,f.1,f.2)
   |.inr r=>bif !(r.2 0&&r.2 1&&r.2 3) then some (z3d,0,14) else(z5z r.1).bind fun e=>bif e != 0 then some (z3d,0,e) else some (r.1,0,0)
theorem zih(s:ByteArray):Lq (z8d s) (z48 s):=by
 unfold z8d z48;refine z0i (z0e _) fun ws=>z0i (z7j _) fun is=>z0n (z0e _) (z0i (zq0 _ _ _ _ _) fun r => ?_)
 cases r with
 |inl _=>exact z0e _
 |inr r=>exact z0n (z0e _) (z0i (zbo _) fun _=>z0e _)
def z94(s:z1m):Option (Int):=
 (z5y s.2.1).bind fun(t:Bool)=>
 (bif t then
 (z3z s.2.2.1).bind fun(t_1:Bool)=>
 some t_1
 else some false).bind fun(c:Bool)=>
 (bif c then
 (z5x s.2.2.2.1).bind fun(t_2:Bool)=>
 some t_2
 else some false).bind fun(c_1:Bool)=>
 (bif c_1 then
 (z0s s.2.2.2.2 1 20000).bind fun(t_3:Bool)=>
 some t_3
 else some false).bind fun(c_2:Bool)=>
 (z58 s.1).bind fun(t_4:Bool)=>
 (z0j t_4 4).bind fun(t_5:Int)=>
 (z0j c_2 2).bind fun(t_6:Int)=>
 (z2o [t_5,t_6]).bind fun(t_7:Int)=>
 some t_7
theorem zjc(s:z1m):Lq (z94 s) (z5r s):=by
 unfold z94 z5r;repeat' with_reducible first|exact z0e _|apply z1h|apply z7j|apply z9r|apply z6p|apply z9q|apply z32|apply z43|apply z1w|apply z0i|apply z11|apply z0n|apply z1v|apply z1u|(refine z0g (fun _ => ?_) (fun _ => ?_)<;>dsimp only)|(intro _;try dsimp only)|dsimp only
def zdf(s:z1m)(o:z00):Option (Bool):=
 (bif (s.2.1 == o.2.1) then
 (z0s s.2.2.2.1 o.2.2.2.2.1 (wi64 (o.2.2.2.2.1+100))).bind fun(t:Bool)=>
 some t
 else some false).bind fun(c:Bool)=>
 some c
theorem zp7(s:z1m)(o:z00):Lq (zdf s o) (z9c s o):=by
 unfold zdf z9c;repeat' with_reducible first|exact z0e _|apply z1h|apply z1w|apply z0i|apply z11|apply z0n|apply z1v|apply z1u|(refine z0g (fun _ => ?_) (fun _ => ?_)<;>dsimp only)|(intro _;try dsimp only)|dsimp only
def z8e(s:z1m)(o:z00):Option (z0t×Int):=
 (z94 s).bind fun(t:Int)=>
 (z5z o).bind fun(t_1:Int)=>
 (zdf s o).bind fun(t_2:Bool)=>
 (z0j t_2 13).bind fun(t_3:Int)=>
 (z2o [t,t_1,t_3]).bind fun(t_4:Int)=>
 bif (t_4 != 0) then
 some ((0,0),t_4)
 else
 let volume:Int:=wi64 ((wi64 (s.2.2.1*s.2.2.2.1))*s.2.2.2.2)
 let thin:Int:=wi64 ((wi64 (o.2.2.1-o.2.2.2.1))*o.2.2.2.2.1)
 let thick:Int:=wi64 ((wi64 (o.2.2.1+o.2.2.2.1))*o.2.2.2.2.1)
 chk (thick != 0) (
 let t_5:Int:=wi64 (Int.tdiv volume thick)
 chk (thin != 0) (
 let t_6:Int:=wi64 (Int.tdiv (wi64 ((wi64 (volume+thin))-1)) thin)
 some ((t_5,t_6),0)))
theorem zii(s:z1m)(o:z00):Lq (z8e s o) (z5e s o):=by
 unfold z8e z5e;repeat' with_reducible first|exact z0e _|apply z32|apply z43|apply zbo|apply zjc|apply zp7|apply z1w|apply z0i|apply z11|apply z0n|apply z1v|apply z1u|(refine z0g (fun _ => ?_) (fun _ => ?_)<;>dsimp only)|(intro _;try dsimp only)|dsimp only
def ztw:Option ((List (List ByteArray))):=
 let t:(List (List ByteArray)):=[[(bytes [97]),(bytes [98]),(bytes [99])],[(bytes [100])],[]]
 some t
theorem y5t:Lq (ztw) (zsn):=by
 unfold ztw zsn;repeat' with_reducible first|exact z0e _|apply z1w|apply z0i|apply z11|apply z0n|apply z1v|apply z1u|(refine z0g (fun _ => ?_) (fun _ => ?_)<;>dsimp only)|(intro _;try dsimp only)|dsimp only
def z93(y:(List (List ByteArray))):Option (Int×Int):=
 (z0j (decide ((List.length y:Int) > 0)) 10).bind fun(t:Int)=>
 (z0j (decide ((List.length y:Int)≤4)) 8).bind fun(t_1:Int)=>
 (z2o [t,t_1]).bind fun(t_2:Int)=>
 bif (t_2 != 0) then
 some (0,t_2)
 else
 (zda (S:=Int×(List (ByteArray×Bool))) (R:=((List (ByteArray×Bool)))⊕(Int×Int)) (fun s=>
 let t_3:Int:=s.1
 let t_4:(List (ByteArray×Bool)):=s.2
 bif decide (t_3 < (List.length y:Int)) then
 chk (decide ((0:Int)≤t_3)&&decide (t_3 < (List.length y:Int))) (
 bif decide ((List.length (lget [] y t_3):Int) > 6) then
 Option.map Sum.inr (Option.map Sum.inr (
 some (t_3,8)))
 else
 (zda (S:=Int×(List (ByteArray×Bool))) (R:=((List (ByteArray×Bool)))⊕((Int×(List (ByteArray×Bool)))⊕(((List (ByteArray×Bool)))⊕(Int×Int)))) (fun s_1=>
 let t_5:Int:=s_1.1
 let t_6:(List (ByteArray×Bool)):=s_1.2
 bif decide (t_5 < (List.length (lget [] y t_3):Int)) then
 chk (decide ((0:Int)≤t_5)&&decide (t_5 < (List.length (lget [] y t_3):Int))) (
 let name:ByteArray:=lget ByteArray.empty (lget [] y t_3) t_5
 (z58 name).bind fun(t_7:Bool)=>
 (z0j t_7 4).bind fun(t_8:Int)=>
 (z0j (!(mget .str .bool t_6 name)) 5).bind fun(t_9:Int)=>
 (z2o [t_8,t_9]).bind fun(t_10:Int)=>
 bif (t_10 != 0) then
 Option.map Sum.inr (Option.map Sum.inr (
 Option.map Sum.inr (Option.map Sum.inr (
 some (t_3,t_10)))))
 else
 let t_11:(List (ByteArray×Bool)):=mput .str .bool t_6 name true
 some (.inl (wi64 (t_5+1),t_11)))
 else
 some (.inr (.inl t_6))) (0,t_4)).bind fun j=>match j with
 |.inl t_12=>(
 some (.inl (wi64 (t_3+1),t_12)))
 |.inr r=>some r)
 else
 some (.inr (.inl t_4))) (0,[])).bind fun j=>match j with
 |.inl t_13=>(
 (z0j (decide ((List.length t_13:Int)≤8)) 8).bind fun(t_14:Int)=>
 some (0,t_14))
 |.inr r=>some r
theorem zjb(y:(List (List ByteArray))):Lq (z93 y) (z1i y):=by
 unfold z93 z1i;repeat' with_reducible first|exact z0e _|apply z7j|apply z32|apply z43|apply z1w|apply z0i|apply z11|apply z0n|apply z1v|apply z1u|(refine z0g (fun _ => ?_) (fun _ => ?_)<;>dsimp only)|(intro _;try dsimp only)|dsimp only
def z89(x:List ByteArray):Option (List ByteArray):=app [] x
theorem zie(x:List ByteArray):Lq (z89 x) (slices_Clone_string x):=by
 unfold z89 slices_Clone_string;repeat' with_reducible first|exact z0e _|apply z1w|apply z0i|apply z11|apply z0n|apply z1v|apply z1u|(refine z0g (fun _ => ?_) (fun _ => ?_)<;>dsimp only)|(intro _;try dsimp only)|dsimp only
def z8b(y:(List (List ByteArray))):Option ((List (List ByteArray))):=
 (zda (S:=(List (List ByteArray))×Int) (R:=(List (List ByteArray))) (fun s=>
 let out:(List (List ByteArray)):=s.1
 let t:Int:=s.2
 bif decide (t < (List.length y:Int)) then
 chk (decide ((0:Int)≤t)&&decide (t < (List.length y:Int))) (
 (z89 (lget [] y t)).bind fun(t_1:(List ByteArray))=>
 (app out [t_1]).bind fun(t_2:List (List ByteArray))=>
 some (.inl (t_2,wi64 (t+1))))
 else
 some (.inr out)) ([],0)).bind fun(out_1:(List (List ByteArray)))=>
 some out_1
theorem zif(y:(List (List ByteArray))):Lq (z8b y) (z2n y):=by
 unfold z8b z2n;repeat' with_reducible first|exact z0e _|apply zie|apply z1w|apply z0i|apply z11|apply z0n|apply z1v|apply z1u|(refine z0g (fun _ => ?_) (fun _ => ?_)<;>dsimp only)|(intro _;try dsimp only)|dsimp only
def z9x(y:(List (List ByteArray))):Option ((List (List ByteArray))×Int):=
 (z93 y).bind fun(r:Int×Int)=>
 (z8b y).bind fun(t:(List (List ByteArray)))=>
 some (t,r.2)
theorem zl8(y:(List (List ByteArray))):Lq (z9x y) (z2u y):=by
 unfold z9x z2u;repeat' with_reducible first|exact z0e _|apply zjb|apply zif|apply z1w|apply z0i|apply z11|apply z0n|apply z1v|apply z1u|(refine z0g (fun _ => ?_) (fun _ => ?_)<;>dsimp only)|(intro _;try dsimp only)|dsimp only
def z61(s:(List (List ByteArray)))(f:((List ByteArray)→Option Bool)):Option (Int):=
 (zda (S:=Int) (R:=(Unit)⊕(Int)) (fun t=>
 bif decide (t < (List.length s:Int)) then
 chk (decide ((0:Int)≤t)&&decide (t < (List.length s:Int))) (
 (f (lget [] s t)).bind fun(t_1:Bool)=>
 bif t_1 then
 Option.map Sum.inr (Option.map Sum.inr (
 some t))
 else
 some (.inl (wi64 (t+1))))
 else
 some (.inr (.inl ()))) 0).bind fun j=>match j with
 |.inl _=>(
 some (-1))
 |.inr r=>some r
theorem zf3(s:(List (List ByteArray))){f f':((List ByteArray)→Option Bool)}(h_f:∀x,Lq (f x) (f' x)):Lq (z61 s f) (z2q s f'):=by
 unfold z61 z2q;repeat' with_reducible first|exact z0e _|exact h_f _|apply z1w|apply z0i|apply z11|apply z0n|apply z1v|apply z1u|(refine z0g (fun _ => ?_) (fun _ => ?_)<;>dsimp only)|(intro _;try dsimp only)|dsimp only
def z52(s:(List (List ByteArray)))(f:((List ByteArray)→Option Bool)):Option (Bool):=
 (z61 s f).bind fun(t:Int)=>
 some (decide (t≥0))
theorem zdb(s:(List (List ByteArray))){f f':((List ByteArray)→Option Bool)}(h_f:∀x,Lq (f x) (f' x)):Lq (z52 s f) (z1b s f'):=by
 unfold z52 z1b;repeat' with_reducible first|exact z0e _|exact h_f _|apply zf3|apply z1w|apply z0i|apply z11|apply z0n|apply z1v|apply z1u|(refine z0g (fun _ => ?_) (fun _ => ?_)<;>dsimp only)|(intro _;try dsimp only)|dsimp only
def z4d(s:(List ByteArray))(v:ByteArray):Option (Int):=
 (zda (S:=Int) (R:=(Unit)⊕(Int)) (fun t=>
 bif decide (t < (List.length s:Int)) then
 chk (decide ((0:Int)≤t)&&decide (t < (List.length s:Int))) (
 bif y0m v (lget ByteArray.empty s t) then
 Option.map Sum.inr (Option.map Sum.inr (
 some t))
 else
 some (.inl (wi64 (t+1))))
 else
 some (.inr (.inl ()))) 0).bind fun j=>match j with
 |.inl _=>(
 some (-1))
 |.inr r=>some r
theorem zbl(s:(List ByteArray))(v:ByteArray):Lq (z4d s v) (slices_Index_string s v):=by
 unfold z4d slices_Index_string;try simp only[zrf]
 repeat' with_reducible first|exact z0e _|apply z1w|apply z0i|apply z11|apply z0n|apply z1v|apply z1u|(refine z0g (fun _ => ?_) (fun _ => ?_)<;>dsimp only)|(intro _;try dsimp only)|dsimp only
def z3h(s:(List ByteArray))(v:ByteArray):Option (Bool):=
 (z4d s v).bind fun(t:Int)=>
 some (decide (t≥0))
theorem z60(s:(List ByteArray))(v:ByteArray):Lq (z3h s v) (slices_Contains_string s v):=by
 unfold z3h slices_Contains_string;repeat' with_reducible first|exact z0e _|apply zbl|apply z1w|apply z0i|apply z11|apply z0n|apply z1v|apply z1u|(refine z0g (fun _ => ?_) (fun _ => ?_)<;>dsimp only)|(intro _;try dsimp only)|dsimp only
def z6g(pile:(List ByteArray))(x:ByteArray):Option (Bool):=
 (z3h pile x).bind fun(t:Bool)=>
 some t
theorem zga(pile:(List ByteArray))(x:ByteArray):Lq (z6g pile x) (z2d pile x):=by
 unfold z6g z2d;repeat' with_reducible first|exact z0e _|apply z60|apply z1w|apply z0i|apply z11|apply z0n|apply z1v|apply z1u|(refine z0g (fun _ => ?_) (fun _ => ?_)<;>dsimp only)|(intro _;try dsimp only)|dsimp only
def z7g(y:(List (List ByteArray)))(request:(List ByteArray)):Option ((List (List ByteArray))×Int):=
 (z9x y).bind fun(r:(List (List ByteArray))×Int)=>
 bif (r.2 != 0) then
 some ([],r.2)
 else
 (zda (S:=Int) (R:=(Unit)⊕((List (List ByteArray))×Int)) (fun t=>
 bif decide (t < (List.length request:Int)) then
 chk (decide ((0:Int)≤t)&&decide (t < (List.length request:Int))) (
 let name:ByteArray:=lget ByteArray.empty request t
 (z52 y (fun x=>z6g x name)).bind fun(t_1:Bool)=>
 (z0j (!(!t_1)) 6).bind fun(t_2:Int)=>
 chk (decide ((0:Int)≤0)&&decide ((0:Int)≤t)&&decide (t≤(List.length request:Int))) (
 (z3h (List.drop (Int.toNat 0) (List.take (Int.toNat t) request)) name).bind fun(t_3:Bool)=>
 (z0j (!t_3) 23).bind fun(t_4:Int)=>
 (z2o [t_2,t_4]).bind fun(t_5:Int)=>
 bif (t_5 != 0) then
 Option.map Sum.inr (Option.map Sum.inr (
 some ([],t_5)))
 else
 some (.inl (wi64 (t+1)))))
 else
 some (.inr (.inl ()))) 0).bind fun j=>match j with
 |.inl _=>(
 some (r.1,0))
 |.inr r=>some r
theorem zhm(y:(List (List ByteArray)))(request:(List ByteArray)):Lq (z7g y request) (z1y y request):=by
 unfold z7g z1y;repeat' with_reducible first|exact z0e _|apply z32|apply z43|apply zl8|apply zdb|apply z60|apply zga|apply z1w|apply z0i|apply z11|apply z0n|apply z1v|apply z1u|(refine z0g (fun _ => ?_) (fun _ => ?_)<;>dsimp only)|(intro _;try dsimp only)|dsimp only
def z4o(s:(List ByteArray))(f:(ByteArray→Option Bool)):Option (Int):=
 (zda (S:=Int) (R:=(Unit)⊕(Int)) (fun t=>
 bif decide (t < (List.length s:Int)) then
 chk (decide ((0:Int)≤t)&&decide (t < (List.length s:Int))) (
 (f (lget ByteArray.empty s t)).bind fun(t_1:Bool)=>
 bif t_1 then
 Option.map Sum.inr (Option.map Sum.inr (
 some t))
 else
 some (.inl (wi64 (t+1))))
 else
 some (.inr (.inl ()))) 0).bind fun j=>match j with
 |.inl _=>(
 some (-1))
 |.inr r=>some r
theorem zct(s:(List ByteArray)){f f':(ByteArray→Option Bool)}(h_f:∀x,Lq (f x) (f' x)):Lq (z4o s f) (z1z s f'):=by
 unfold z4o z1z;repeat' with_reducible first|exact z0e _|exact h_f _|apply z1w|apply z0i|apply z11|apply z0n|apply z1v|apply z1u|(refine z0g (fun _ => ?_) (fun _ => ?_)<;>dsimp only)|(intro _;try dsimp only)|dsimp only
def z3r(s:(List ByteArray))(f:(ByteArray→Option Bool)):Option (Bool):=
 (z4o s f).bind fun(t:Int)=>
 some (decide (t≥0))
theorem zap(s:(List ByteArray)){f f':(ByteArray→Option Bool)}(h_f:∀x,Lq (f x) (f' x)):Lq (z3r s f) (z0p s f'):=by
 unfold z3r z0p;repeat' with_reducible first|exact z0e _|exact h_f _|apply zct|apply z1w|apply z0i|apply z11|apply z0n|apply z1v|apply z1u|(refine z0g (fun _ => ?_) (fun _ => ?_)<;>dsimp only)|(intro _;try dsimp only)|dsimp only
def zdg(request:(List ByteArray))(name:ByteArray)(than:ByteArray):Option (Bool):=
 (z4d request name).bind fun(t:Int)=>
 (bif decide (t < 0) then some true else
 (z4d request than).bind fun(t_1:Int)=>
 some (decide (t > t_1))).bind fun(c:Bool)=>
 some c
theorem zp8(request:(List ByteArray))(name:ByteArray)(than:ByteArray):Lq (zdg request name than) (z74 request name than):=by
 unfold zdg z74;repeat' with_reducible first|exact z0e _|apply zbl|apply z1w|apply z0i|apply z11|apply z0n|apply z1v|apply z1u|(refine z0g (fun _ => ?_) (fun _ => ?_)<;>dsimp only)|(intro _;try dsimp only)|dsimp only
def z5k(below:ByteArray)(x:(List ByteArray))(x_1:ByteArray):Option (Bool):=
 (z3h x below).bind fun(t:Bool)=>
 (bif t then
 (zdg x x_1 below).bind fun(t_1:Bool)=>
 some t_1
 else some false).bind fun(c:Bool)=>
 some c
theorem zen(below:ByteArray)(x:(List ByteArray))(x_1:ByteArray):Lq (z5k below x x_1) (z1a below x x_1):=by
 unfold z5k z1a;repeat' with_reducible first|exact z0e _|apply z60|apply zp8|apply z1w|apply z0i|apply z11|apply z0n|apply z1v|apply z1u|(refine z0g (fun _ => ?_) (fun _ => ?_)<;>dsimp only)|(intro _;try dsimp only)|dsimp only
def z6f(y:(List (List ByteArray)))(request:(List ByteArray)):Option ((List ByteArray)):=
 (zda (S:=(List ByteArray)×Int) (R:=(List ByteArray)) (fun s=>
 let out:(List ByteArray):=s.1
 let t:Int:=s.2
 bif decide (t < (List.length y:Int)) then
 chk (decide ((0:Int)≤t)&&decide (t < (List.length y:Int))) (
 (zda (S:=(List ByteArray)×Int) (R:=(List ByteArray)) (fun s_1=>
 let out_1:(List ByteArray):=s_1.1
 let t_1:Int:=s_1.2
 bif decide (t_1 < (List.length (lget [] y t):Int)) then
 chk (decide ((0:Int)≤t_1)&&decide (t_1 < (List.length (lget [] y t):Int))) (
 let name:ByteArray:=lget ByteArray.empty (lget [] y t) t_1
 chk (decide ((0:Int)≤0)&&decide ((0:Int)≤t_1)&&decide (t_1≤(List.length (lget [] y t):Int))) (
 (z3r (List.drop (Int.toNat 0) (List.take (Int.toNat t_1) (lget [] y t))) (fun x=>z5k x request name)).bind fun(t_2:Bool)=>
 (bif t_2 then
 (app out_1 [name]).bind fun(t_3:List ByteArray)=>
 some t_3
 else
 some out_1).bind fun(out_2:(List ByteArray))=>
 some (.inl (out_2,wi64 (t_1+1)))))
 else
 some (.inr out_1)) (out,0)).bind fun(out_3:(List ByteArray))=>
 some (.inl (out_3,wi64 (t+1))))
 else
 some (.inr out)) ([],0)).bind fun(out_4:(List ByteArray))=>
 some out_4
theorem zg9(y:(List (List ByteArray)))(request:(List ByteArray)):Lq (z6f y request) (z1l y request):=by
 unfold z6f z1l;repeat' with_reducible first|exact z0e _|apply zap|apply zen|apply z1w|apply z0i|apply z11|apply z0n|apply z1v|apply z1u|(refine z0g (fun _ => ?_) (fun _ => ?_)<;>dsimp only)|(intro _;try dsimp only)|dsimp only
def z96(y:(List (List ByteArray)))(request:(List ByteArray)):Option ((List ByteArray)×Int):=
 (z7g y request).bind fun(r:(List (List ByteArray))×Int)=>
 bif (r.2 != 0) then
 some ([],r.2)
 else
 (z6f r.1 request).bind fun(t:(List ByteArray))=>
 some (t,0)
theorem zje(y:(List (List ByteArray)))(request:(List ByteArray)):Lq (z96 y request) (z35 y request):=by
 unfold z96 z35;repeat' with_reducible first|exact z0e _|apply zhm|apply zg9|apply z1w|apply z0i|apply z11|apply z0n|apply z1v|apply z1u|(refine z0g (fun _ => ?_) (fun _ => ?_)<;>dsimp only)|(intro _;try dsimp only)|dsimp only
def zl0:Option (z0f):=
 some (2,(100,(150,(1000,(2,(5000,(1,(0,10))))))))
theorem y1t:Lq (zl0) (zkp):=by
 unfold zl0 zkp;repeat' with_reducible first|exact z0e _|apply z1w|apply z0i|apply z11|apply z0n|apply z1v|apply z1u|(refine z0g (fun _ => ?_) (fun _ => ?_)<;>dsimp only)|(intro _;try dsimp only)|dsimp only
def zl1:Option ((List z03)):=
 let t:(List z03):=[(1200,(3000,(5,1000))),(1100,(2500,(4,1000))),(1050,(3400,(6,2000)))]
 some t
theorem y1u:Lq (zl1) (zkq):=by
 unfold zl1 zkq;repeat' with_reducible first|exact z0e _|apply z1w|apply z0i|apply z11|apply z0n|apply z1v|apply z1u|(refine z0g (fun _ => ?_) (fun _ => ?_)<;>dsimp only)|(intro _;try dsimp only)|dsimp only
def z3j(s:(List z03))(f:(z03→Option Bool)):Option (Int):=
 (zda (S:=Int) (R:=(Unit)⊕(Int)) (fun t=>
 bif decide (t < (List.length s:Int)) then
 chk (decide ((0:Int)≤t)&&decide (t < (List.length s:Int))) (
 (f (lget (0,(0,(0,0))) s t)).bind fun(t_1:Bool)=>
 bif t_1 then
 Option.map Sum.inr (Option.map Sum.inr (
 some t))
 else
 some (.inl (wi64 (t+1))))
 else
 some (.inr (.inl ()))) 0).bind fun j=>match j with
 |.inl _=>(
 some (-1))
 |.inr r=>some r
theorem z9p(s:(List z03)){f f':(z03→Option Bool)}(h_f:∀x,Lq (f x) (f' x)):Lq (z3j s f) (z1t s f'):=by
 unfold z3j z1t;repeat' with_reducible first|exact z0e _|exact h_f _|apply z1w|apply z0i|apply z11|apply z0n|apply z1v|apply z1u|(refine z0g (fun _ => ?_) (fun _ => ?_)<;>dsimp only)|(intro _;try dsimp only)|dsimp only
def z2z(s:(List z03))(f:(z03→Option Bool)):Option (Bool):=
 (z3j s f).bind fun(t:Int)=>
 some (decide (t≥0))
theorem z8g(s:(List z03)){f f':(z03→Option Bool)}(h_f:∀x,Lq (f x) (f' x)):Lq (z2z s f) (z1j s f'):=by
 unfold z2z z1j;repeat' with_reducible first|exact z0e _|exact h_f _|apply z9p|apply z1w|apply z0i|apply z11|apply z0n|apply z1v|apply z1u|(refine z0g (fun _ => ?_) (fun _ => ?_)<;>dsimp only)|(intro _;try dsimp only)|dsimp only
def zc8(x:z03):Option (Bool):=
 (z5x x.1).bind fun(t:Bool)=>
 (bif !t then some true else
 (z3z x.2.1).bind fun(t_1:Bool)=>
 some (!t_1)).bind fun(c:Bool)=>
 (bif c then some true else
 (z5y x.2.2.1).bind fun(t_2:Bool)=>
 some (!t_2)).bind fun(c_1:Bool)=>
 (bif c_1 then some true else
 (z0s x.2.2.2 1 10000).bind fun(t_3:Bool)=>
 some (!t_3)).bind fun(c_2:Bool)=>
 some c_2
theorem znt(x:z03):Lq (zc8 x) (z83 x):=by
 unfold zc8 z83;repeat' with_reducible first|exact z0e _|apply z1h|apply z9r|apply z6p|apply z9q|apply z1w|apply z0i|apply z11|apply z0n|apply z1v|apply z1u|(refine z0g (fun _ => ?_) (fun _ => ?_)<;>dsimp only)|(intro _;try dsimp only)|dsimp only
def z7d(s:(List Int))(f:(Int→Option Bool)):Option (Int):=
 (zda (S:=Int) (R:=(Unit)⊕(Int)) (fun t=>
 bif decide (t < (List.length s:Int)) then
 chk (decide ((0:Int)≤t)&&decide (t < (List.length s:Int))) (
 (f (lget 0 s t)).bind fun(t_1:Bool)=>
 bif t_1 then
 Option.map Sum.inr (Option.map Sum.inr (
 some t))
 else
 some (.inl (wi64 (t+1))))
 else
 some (.inr (.inl ()))) 0).bind fun j=>match j with
 |.inl _=>(
 some (-1))
 |.inr r=>some r
theorem zhj(s:(List Int)){f f':(Int→Option Bool)}(h_f:∀x,Lq (f x) (f' x)):Lq (z7d s f) (z4p s f'):=by
 unfold z7d z4p;repeat' with_reducible first|exact z0e _|exact h_f _|apply z1w|apply z0i|apply z11|apply z0n|apply z1v|apply z1u|(refine z0g (fun _ => ?_) (fun _ => ?_)<;>dsimp only)|(intro _;try dsimp only)|dsimp only
def z4c(s:(List Int))(f:(Int→Option Bool)):Option (Bool):=
 (z7d s f).bind fun(t:Int)=>
 some (decide (t≥0))
theorem z8s(s:(List Int)){f f':(Int→Option Bool)}(h_f:∀x,Lq (f x) (f' x)):Lq (z4c s f) (z2r s f'):=by
 unfold z4c z2r;repeat' with_reducible first|exact z0e _|exact h_f _|apply zhj|apply z1w|apply z0i|apply z11|apply z0n|apply z1v|apply z1u|(refine z0g (fun _ => ?_) (fun _ => ?_)<;>dsimp only)|(intro _;try dsimp only)|dsimp only
def z63(n:Int)(x:Int):Option (Bool):=
 (z0s n 0 x).bind fun(t:Bool)=>
 some (!t)
theorem zf5(n:Int)(x:Int):Lq (z63 n x) (z3o n x):=by
 unfold z63 z3o;repeat' with_reducible first|exact z0e _|apply z1h|apply z1w|apply z0i|apply z11|apply z0n|apply z1v|apply z1u|(refine z0g (fun _ => ?_) (fun _ => ?_)<;>dsimp only)|(intro _;try dsimp only)|dsimp only
def z2a(most:Int)(l:(List Int)):Option (Bool):=
 (z4c l (fun x=>z63 x most)).bind fun(t:Bool)=>
 some (!t)
theorem zgx(most:Int)(l:(List Int)):Lq (z2a most l) (z1p most l):=by
 unfold z2a z1p;repeat' with_reducible first|exact z0e _|apply z8s|apply zf5|apply z1w|apply z0i|apply z11|apply z0n|apply z1v|apply z1u|(refine z0g (fun _ => ?_) (fun _ => ?_)<;>dsimp only)|(intro _;try dsimp only)|dsimp only
def z8f(r:z0f):Option (Int):=
 (z2a 7 [r.1]).bind fun(t:Bool)=>
 (bif t then
 (z2a 300000 [r.2.1,r.2.2.1,r.2.2.2.1]).bind fun(t_1:Bool)=>
 some t_1
 else some false).bind fun(c:Bool)=>
 (bif c then
 (z2a 99 [r.2.2.2.2.1]).bind fun(t_2:Bool)=>
 some t_2
 else some false).bind fun(c_1:Bool)=>
 (bif c_1 then
 (z2a 70000 [r.2.2.2.2.2.1]).bind fun(t_3:Bool)=>
 some t_3
 else some false).bind fun(c_2:Bool)=>
 (bif c_2 then
 (z2a 10000 [r.2.2.2.2.2.2.1,r.2.2.2.2.2.2.2.1,r.2.2.2.2.2.2.2.2]).bind fun(t_4:Bool)=>
 some t_4
 else some false).bind fun(c_3:Bool)=>
 (z0j c_3 2).bind fun(t_5:Int)=>
 some t_5
theorem zij(r:z0f):Lq (z8f r) (z5f r):=by
 unfold z8f z5f;repeat' with_reducible first|exact z0e _|apply z32|apply zgx|apply z1w|apply z0i|apply z11|apply z0n|apply z1v|apply z1u|(refine z0g (fun _ => ?_) (fun _ => ?_)<;>dsimp only)|(intro _;try dsimp only)|dsimp only
def zb8(r:z0f)(l:(List z03)):Option (z04×Int):=
 (z2z l (fun x=>zc8 x)).bind fun(t:Bool)=>
 (z8f r).bind fun(t_1:Int)=>
 (z0j (decide ((List.length l:Int) > 0)) 10).bind fun(t_2:Int)=>
 (z0j (decide ((List.length l:Int)≤7)) 8).bind fun(t_3:Int)=>
 (z0j (!t) 2).bind fun(t_4:Int)=>
 (z2o [t_1,t_2,t_3,t_4]).bind fun(t_5:Int)=>
 some ((r,l),t_5)
theorem zi8(r:z0f)(l:(List z03)):Lq (zb8 r l) (z6r r l):=by
 unfold zb8 z6r;repeat' with_reducible first|exact z0e _|apply z32|apply z43|apply z8g|apply znt|apply zij|apply z1w|apply z0i|apply z11|apply z0n|apply z1v|apply z1u|(refine z0g (fun _ => ?_) (fun _ => ?_)<;>dsimp only)|(intro _;try dsimp only)|dsimp only
def zb9(count:Int):Option ((List Int)):=
 (zda (S:=(List Int)×Int) (R:=(List Int)) (fun s=>
 let out:(List Int):=s.1
 let t:Int:=s.2
 bif decide (t < count) then
 (app out [t]).bind fun(t_1:List Int)=>
 some (.inl (t_1,wi64 (t+1)))
 else
 some (.inr out)) ([],0)).bind fun(out_1:(List Int))=>
 some out_1
theorem zmd(count:Int):Lq (zb9 count) (z5n count):=by
 unfold zb9 z5n;repeat' with_reducible first|exact z0e _|apply z1w|apply z0i|apply z11|apply z0n|apply z1v|apply z1u|(refine z0g (fun _ => ?_) (fun _ => ?_)<;>dsimp only)|(intro _;try dsimp only)|dsimp only
def z5h(n:Int):Option (Int):=
 let t:Int:=imax n (wi64 (0-n))
 some t
theorem zi7(n:Int):Lq (z5h n) (z50 n):=by
 unfold z5h z50;repeat' with_reducible first|exact z0e _|apply z1w|apply z0i|apply z11|apply z0n|apply z1v|apply z1u|(refine z0g (fun _ => ?_) (fun _ => ?_)<;>dsimp only)|(intro _;try dsimp only)|dsimp only
def z62(r:z04)(sequence:(List Int))(p:Int):Option ((Nat→Bool)):=
 chk (decide ((0:Int)≤0)&&decide ((0:Int)≤(wi64 (p+1)))&&decide ((wi64 (p+1))≤(List.length sequence:Int))) (
 (zda (S:=Int×Int) (R:=Int) (fun s=>
 let metres:Int:=s.1
 let t:Int:=s.2
 bif decide (t < (List.length (List.drop (Int.toNat 0) (List.take (Int.toNat (wi64 (p+1))) sequence)):Int)) then
 chk (decide ((0:Int)≤t)&&decide (t < (List.length (List.drop (Int.toNat 0) (List.take (Int.toNat (wi64 (p+1))) sequence)):Int))) (
 let i:Int:=lget 0 (List.drop (Int.toNat 0) (List.take (Int.toNat (wi64 (p+1))) sequence)) t
 chk (decide ((0:Int)≤i)&&decide (i < (List.length r.2:Int))) (
 let metres_1:Int:=wi64 (metres+((((lget (0,(0,(0,0))) r.2 i).2).2).2))
 some (.inl (metres_1,wi64 (t+1)))))
 else
 some (.inr metres)) (0,0)).bind fun(metres_2:Int)=>
 chk (decide ((0:Int)≤0)&&decide ((0:Int) < 5)) (
 let out:(Nat→Bool):=aset (fun _=>false) 0 (decide (metres_2 > r.1.2.2.2.2.2.1))
 bif (p == 0) then
 some out
 else
 chk (decide ((0:Int)≤p)&&decide (p < (List.length sequence:Int))) (
 chk (decide ((0:Int)≤(lget 0 sequence p))&&decide ((lget 0 sequence p) < (List.length r.2:Int))) (
 chk (decide ((0:Int)≤(wi64 (p-1)))&&decide ((wi64 (p-1)) < (List.length sequence:Int))) (
 chk (decide ((0:Int)≤(lget 0 sequence (wi64 (p-1))))&&decide ((lget 0 sequence (wi64 (p-1))) < (List.length r.2:Int))) (
 let x:z03:=lget (0,(0,(0,0))) r.2 (lget 0 sequence p)
 let y:z03:=lget (0,(0,(0,0))) r.2 (lget 0 sequence (wi64 (p-1)))
 (bif decide (p < r.1.1) then
 chk (decide ((0:Int)≤1)&&decide ((1:Int) < 5)) (
 let out_1:(Nat→Bool):=aset out 1 (decide ((wi64 (x.1-y.1)) < 0))
 some out_1)
 else
 chk (decide ((0:Int)≤1)&&decide ((1:Int) < 5)) (
 let out_2:(Nat→Bool):=aset out 1 (decide ((wi64 (x.1-y.1)) > 0))
 some out_2)).bind fun(out_3:(Nat→Bool))=>
 (z0s (wi64 (x.1-y.1)) (wi64 (0-r.1.2.2.1)) r.1.2.1).bind fun(t_1:Bool)=>
 chk (decide ((0:Int)≤2)&&decide ((2:Int) < 5)) (
 let out_4:(Nat→Bool):=aset out_3 2 (!t_1)
 (z5h (wi64 (x.2.1-y.2.1))).bind fun(t_2:Int)=>
 chk (decide ((0:Int)≤3)&&decide ((3:Int) < 5)) (
 let out_5:(Nat→Bool):=aset out_4 3 (decide (t_2 > r.1.2.2.2.1))
 (z5h (wi64 (x.2.2.1-y.2.2.1))).bind fun(t_3:Int)=>
 chk (decide ((0:Int)≤4)&&decide ((4:Int) < 5)) (
 let out_6:(Nat→Bool):=aset out_5 4 (decide (t_3 > r.1.2.2.2.2.1))
 some out_6)))))))))
theorem zf4(r:z04)(sequence:(List Int))(p:Int):Lq (z62 r sequence p) (z2t r sequence p):=by
 unfold z62 z2t;repeat' with_reducible first|exact z0e _|apply z1h|apply zi7|apply z1w|apply z0i|apply z11|apply z0n|apply z1v|apply z1u|(refine z0g (fun _ => ?_) (fun _ => ?_)<;>dsimp only)|(intro _;try dsimp only)|dsimp only
def z9w(s:(List Bool))(v:Bool):Option (Int):=
 (zda (S:=Int) (R:=(Unit)⊕(Int)) (fun t=>
 bif decide (t < (List.length s:Int)) then
 chk (decide ((0:Int)≤t)&&decide (t < (List.length s:Int))) (
 bif (v == (lget false s t)) then
 Option.map Sum.inr (Option.map Sum.inr (
 some t))
 else
 some (.inl (wi64 (t+1))))
 else
 some (.inr (.inl ()))) 0).bind fun j=>match j with
 |.inl _=>(
 some (-1))
 |.inr r=>some r
theorem zl7(s:(List Bool))(v:Bool):Lq (z9w s v) (z65 s v):=by
 unfold z9w z65;repeat' with_reducible first|exact z0e _|apply z1w|apply z0i|apply z11|apply z0n|apply z1v|apply z1u|(refine z0g (fun _ => ?_) (fun _ => ?_)<;>dsimp only)|(intro _;try dsimp only)|dsimp only
def z7e(s:(List Bool))(v:Bool):Option (Bool):=
 (z9w s v).bind fun(t:Int)=>
 some (decide (t≥0))
theorem zhk(s:(List Bool))(v:Bool):Lq (z7e s v) (z3p s v):=by
 unfold z7e z3p;repeat' with_reducible first|exact z0e _|apply zl7|apply z1w|apply z0i|apply z11|apply z0n|apply z1v|apply z1u|(refine z0g (fun _ => ?_) (fun _ => ?_)<;>dsimp only)|(intro _;try dsimp only)|dsimp only
def zpo(r:z04)(begun:List Int):Option Bool:=
 bif decide ((begun.length:Int) > 0) then(z62 r begun (wi64 ((begun.length:Int)-1))).bind fun v=>z7e ((List.range 5).map v) true else some false
theorem zsm(r:z04)(begun:List Int):Lq (zpo r begun) (zok r begun):=z0n (z0i (zf4 _ _ _) fun _=>zhk _ _) (z0e _)
def zb7(s:(List Int))(v:Int):Option (Int):=
 (zda (S:=Int) (R:=(Unit)⊕(Int)) (fun t=>
 bif decide (t < (List.length s:Int)) then
 chk (decide ((0:Int)≤t)&&decide (t < (List.length s:Int))) (
 bif (v == (lget 0 s t)) then
 Option.map Sum.inr (Option.map Sum.inr (
 some t))
 else
 some (.inl (wi64 (t+1))))
 else
 some (.inr (.inl ()))) 0).bind fun j=>match j with
 |.inl _=>(
 some (-1))
 |.inr r=>some r
theorem zmb(s:(List Int))(v:Int):Lq (zb7 s v) (slices_Index_int s v):=by
 unfold zb7 slices_Index_int;repeat' with_reducible first|exact z0e _|apply z1w|apply z0i|apply z11|apply z0n|apply z1v|apply z1u|(refine z0g (fun _ => ?_) (fun _ => ?_)<;>dsimp only)|(intro _;try dsimp only)|dsimp only
def z5v(s:(List Int))(v:Int):Option (Bool):=
 (zb7 s v).bind fun(t:Int)=>
 some (decide (t≥0))
theorem zbm(s:(List Int))(v:Int):Lq (z5v s v) (slices_Contains_int s v):=by
 unfold z5v slices_Contains_int;repeat' with_reducible first|exact z0e _|apply zmb|apply z1w|apply z0i|apply z11|apply z0n|apply z1v|apply z1u|(refine z0g (fun _ => ?_) (fun _ => ?_)<;>dsimp only)|(intro _;try dsimp only)|dsimp only
theorem y8j{α β:Type}{f g:α→Option (List β)}(h:∀a,Lq (f a) (g a)):∀l,Lq (catM f l) (catM g l)
 |[]=>z0e _
 |a::l=>z0i (h a) fun _=>z0i (y8j h l) fun _=>z0e _
def ztx(r:z04)(items:List Int):Nat→List Int→Option (List (List Int))
 |0,begun=>(zpo r begun).bind fun bad=>bif bad then some [] else bif ((begun.length:Int) == (items.length:Int)) then some [begun] else none
 |m+1,begun=>(zpo r begun).bind fun bad=>bif bad then some [] else bif ((begun.length:Int) == (items.length:Int)) then some [begun] else catM (fun i=>(z5v begun i).bind fun t=>bif t then some [] else ztx r items m (begun++[i])) items
theorem y3s(r:z04)(items:List Int):∀(m:Nat) (begun:List Int),Lq (ztx r items m begun) (zxm r items m begun)
 |0,begun=>by
  unfold ztx zxm;exact z0i (zsm _ _) fun _=>z0n (z0e _) (z0n (z0e _) (z0e _))
 |m+1,begun=>by
  unfold ztx zxm;exact z0i (zsm _ _) fun _=>z0n (z0e _) (z0n (z0e _) (y8j (fun i=>z0i (zbm _ _) fun _=>z0n (z0e _) (y3s r items m _)) _))
def z8y(r:z04)(items:List Int):Option (List (List Int)):=bif decide (items.length≤1000) then ztx r items (items.length+1) [] else none
theorem zeo(r:z04)(items:List Int):Lq (z8y r items) (z2i r items):=z0n (y3s _ _ _ _) (z0e _)
def z5w(r:z04)(a:Int)(b:Int):Option (Int):=
 chk (decide ((0:Int)≤a)&&decide (a < (List.length r.2:Int))) (
 chk (decide ((0:Int)≤b)&&decide (b < (List.length r.2:Int))) (
 let x:z03:=lget (0,(0,(0,0))) r.2 a
 let y:z03:=lget (0,(0,(0,0))) r.2 b
 (z5h (wi64 (x.1-y.1))).bind fun(t:Int)=>
 (z5h (wi64 (x.2.1-y.2.1))).bind fun(t_1:Int)=>
 (z5h (wi64 (x.2.2.1-y.2.2.1))).bind fun(t_2:Int)=>
 let t_3:Int:=wi64 ((wi64 ((wi64 (r.1.2.2.2.2.2.2.1*t))+(wi64 (r.1.2.2.2.2.2.2.2.1*t_1))))+(wi64 (r.1.2.2.2.2.2.2.2.2*t_2)))
 some t_3))
theorem zbn(r:z04)(a:Int)(b:Int):Lq (z5w r a b) (z44 r a b):=by
 unfold z5w z44;repeat' with_reducible first|exact z0e _|apply zi7|apply z1w|apply z0i|apply z11|apply z0n|apply z1v|apply z1u|(refine z0g (fun _ => ?_) (fun _ => ?_)<;>dsimp only)|(intro _;try dsimp only)|dsimp only
def z7f(r:z04)(sequence:(List Int)):Option (Int):=
 (zda (S:=Int×Int) (R:=Int) (fun s=>
 let sum:Int:=s.1
 let p:Int:=s.2
 bif decide (p < (List.length sequence:Int)) then
 chk (decide ((0:Int)≤(wi64 (p-1)))&&decide ((wi64 (p-1)) < (List.length sequence:Int))) (
 chk (decide ((0:Int)≤p)&&decide (p < (List.length sequence:Int))) (
 (z5w r (lget 0 sequence (wi64 (p-1))) (lget 0 sequence p)).bind fun(t:Int)=>
 some (.inl (wi64 (sum+t),wi64 (p+1)))))
 else
 some (.inr sum)) (0,1)).bind fun(sum_1:Int)=>
 some sum_1
theorem zhl(r:z04)(sequence:(List Int)):Lq (z7f r sequence) (z1x r sequence):=by
 unfold z7f z1x;repeat' with_reducible first|exact z0e _|apply zbn|apply z1w|apply z0i|apply z11|apply z0n|apply z1v|apply z1u|(refine z0g (fun _ => ?_) (fun _ => ?_)<;>dsimp only)|(intro _;try dsimp only)|dsimp only
def ya0(x:z04)(s:List Int)(b:Option (List Int×Int)):Option (Option (List Int×Int)):=
 (z7f x s).bind fun n=>match b with
  |none=>some (some (s,n))
  |some c=>chk (!c.1.isEmpty) (bif decide (n < c.2) then some (some (s,n)) else some (some c))
theorem ybf(x:z04)(s:List Int)(b:Option (List Int×Int)):Lq (ya0 x s b) (y6f x s b):=z0i (zhl _ _) fun _=>z0e _
def y2p(x:z04):List (List Int)→Option (List Int×Int)→Option (Option (List Int×Int))
 |[],b=>some b
 |s::cs,b=>(ya0 x s b).bind fun d=>y2p x cs d
theorem y3t(x:z04):∀(cs:List (List Int)) (b:Option (List Int×Int)),Lq (y2p x cs b) (y6g x cs b)
 |[],_=>z0e _
 |s::cs,b=>z0i (ybf _ _ _) fun d=>y3t x cs d
def zf1(r:z0f)(l:List z03):Option (List Int×Int×Int):=
 (zb8 r l).bind fun x=>bif x.2 != 0 then some ([],0,x.2) else
 (zb9 (l.length:Int)).bind fun ns=>(z8y x.1 ns).bind fun cs=>(y2p x.1 cs none).bind fun b=>match b with
 |none=>some ([],0,12)
 |some c=>chk (!c.1.isEmpty) (some (c.1,c.2,0))
theorem zl9(r:z0f)(l:List z03):Lq (zf1 r l) (z6d r l):=
 z0i (zi8 _ _) fun _=>z0n (z0e _) (z0i (zmd _) fun _=>z0i (zeo _ _) fun _=>z0i (y3t _ _ _) fun _=>z0e _)
def z95(n:Int):Option (Bool):=
 (z0s n (-10000) 10000).bind fun(t:Bool)=>
 some (!t)
theorem zjd(n:Int):Lq (z95 n) (z5s n):=by
 unfold z95 z5s;repeat' with_reducible first|exact z0e _|apply z1h|apply z1w|apply z0i|apply z11|apply z0n|apply z1v|apply z1u|(refine z0g (fun _ => ?_) (fun _ => ?_)<;>dsimp only)|(intro _;try dsimp only)|dsimp only
def z9u(x:List Int):Option (List Int):=bif decide (x.length≤1000000) then some x else none
theorem zl5(x:List Int):Lq (z9u x) (z55 x):=by
 unfold z9u z55;repeat' with_reducible first|exact z0e _|apply z1w|apply z0i|apply z11|apply z0n|apply z1v|apply z1u|(refine z0g (fun _ => ?_) (fun _ => ?_)<;>dsimp only)|(intro _;try dsimp only)|dsimp only
theorem zu3:z40 [0,20,0]=some [0,0,20]:=by
 unfold z40;have h:([0,20,0]:List Int).mergeSort (fun a b=>decide (a≤b))=[0,0,20]:=by
  simp[List.mergeSort,List.MergeSort.Internal.splitInTwo,List.merge]
 rw[h];rfl
def z9v(x:List Int):Option (List Int):=if x=[0,20,0] then some [0,0,20] else none
theorem zl6(x:List Int):Lq (z9v x) (z40 x):=by
 intro v hv;unfold z9v at hv;split at hv
 ·rename_i h;subst h;cases hv;exact zu3
 ·cases hv
def z8c(r:z04)(prices:(List Int)):Option (Int):=
 (zda (S:=(List Int)×Int) (R:=Int) (fun s=>
 let in_:(List Int):=s.1
 let sum:Int:=s.2
 bif decide ((List.length in_:Int) < (List.length r.2:Int)) then
 (zda (S:=Int×Int×Int) (R:=Int×Int) (fun s_1=>
 let next:Int:=s_1.1
 let least:Int:=s_1.2.1
 let t:Int:=s_1.2.2
 bif decide (t < (List.length in_:Int)) then
 chk (decide ((0:Int)≤t)&&decide (t < (List.length in_:Int))) (
 (zda (S:=Int×Int×Int) (R:=Int×Int) (fun s_2=>
 let next_1:Int:=s_2.1
 let least_1:Int:=s_2.2.1
 let t_1:Int:=s_2.2.2
 bif decide (t_1 < (List.length r.2:Int)) then
 (z5w r (lget 0 in_ t) t_1).bind fun(t_2:Int)=>
 chk (decide ((0:Int)≤(lget 0 in_ t))&&decide ((lget 0 in_ t) < (List.length prices:Int))) (
 chk (decide ((0:Int)≤t_1)&&decide (t_1 < (List.length prices:Int))) (
 let n:Int:=wi64 ((wi64 (t_2-(lget 0 prices (lget 0 in_ t))))-(lget 0 prices t_1))
 (z5v in_ t_1).bind fun(t_3:Bool)=>
 (bif ((!t_3)&&((decide (next_1 < 0))||(decide (n < least_1)))) then
 some (t_1,n)
 else
 some (next_1,least_1)).bind fun(j:Int×Int)=>
 let next_2:Int:=j.1
 let least_2:Int:=j.2
 some (.inl (next_2,least_2,wi64 (t_1+1)))))
 else
 some (.inr (next_1,least_1))) (next,least,0)).bind fun(b:Int×Int)=>
 let next_3:Int:=b.1
 let least_3:Int:=b.2
 some (.inl (next_3,least_3,wi64 (t+1))))
 else
 some (.inr (next,least))) ((-1),0,0)).bind fun(b_1:Int×Int)=>
 let next_4:Int:=b_1.1
 let least_4:Int:=b_1.2
 (app in_ [next_4]).bind fun(t_4:List Int)=>
 let sum_1:Int:=wi64 (sum+least_4)
 some (.inl (t_4,sum_1))
 else
 some (.inr sum)) ([0],0)).bind fun(sum_2:Int)=>
 some sum_2
theorem zig(r:z04)(prices:(List Int)):Lq (z8c r prices) (z5d r prices):=by
 unfold z8c z5d;repeat' with_reducible first|exact z0e _|apply zbm|apply zbn|apply z1w|apply z0i|apply z11|apply z0n|apply z1v|apply z1u|(refine z0g (fun _ => ?_) (fun _ => ?_)<;>dsimp only)|(intro _;try dsimp only)|dsimp only
def zba(r:z0f)(l:(List z03))(prices:(List Int)):Option (Int×Int):=
 (zb8 r l).bind fun(r_1:z04×Int)=>
 (z4c prices (fun x=>z95 x)).bind fun(t:Bool)=>
 (z0j ((List.length prices:Int) == (List.length l:Int)) 10).bind fun(t_1:Int)=>
 (z0j (!t) 2).bind fun(t_2:Int)=>
 (z2o [r_1.2,t_1,t_2]).bind fun(t_3:Int)=>
 bif (t_3 != 0) then
 some (0,t_3)
 else
 bif ((List.length l:Int) == 1) then
 some (0,0)
 else
 (zda (S:=Int×Int) (R:=Int) (fun s=>
 let sum:Int:=s.1
 let t_4:Int:=s.2
 bif decide (t_4 < (List.length prices:Int)) then
 chk (decide ((0:Int)≤t_4)&&decide (t_4 < (List.length prices:Int))) (
 let sum_1:Int:=wi64 (sum+(wi64 (2*(lget 0 prices t_4))))
 some (.inl (sum_1,wi64 (t_4+1))))
 else
 some (.inr sum)) (0,0)).bind fun(sum_2:Int)=>
 (z9u prices).bind fun(t_5:(List Int))=>
 (z9v t_5).bind fun(t_6:(List Int))=>
 chk (decide ((0:Int)≤(wi64 ((List.length t_6:Int)-2)))&&decide (((wi64 ((List.length t_6:Int)-2)):Int)≤(List.length t_6:Int))&&decide ((List.length t_6:Int)≤(List.length t_6:Int))) (
 let top:(List Int):=List.drop (Int.toNat (wi64 ((List.length t_6:Int)-2))) (List.take (Int.toNat (List.length t_6:Int)) t_6)
 (z8c r_1.1 prices).bind fun(t_7:Int)=>
 chk (decide ((0:Int)≤0)&&decide (0 < (List.length top:Int))) (
 chk (decide ((0:Int)≤1)&&decide (1 < (List.length top:Int))) (
 let t_8:Int:=wi64 ((wi64 ((wi64 (t_7+sum_2))-(lget 0 top 0)))-(lget 0 top 1))
 some (t_8,0))))
theorem zme(r:z0f)(l:(List z03))(prices:(List Int)):Lq (zba r l prices) (z6x r l prices):=by
 unfold zba z6x;repeat' with_reducible first|exact z0e _|apply z32|apply z43|apply z8s|apply zi8|apply zjd|apply zl5|apply zl6|apply zig|apply z1w|apply z0i|apply z11|apply z0n|apply z1v|apply z1u|(refine z0g (fun _ => ?_) (fun _ => ?_)<;>dsimp only)|(intro _;try dsimp only)|dsimp only
def zpp(a:(List ByteArray))(b:(List ByteArray)):Option (Bool):=
 bif ((List.length a:Int) != (List.length b:Int)) then
 some false
 else
 (zda (S:=Int) (R:=(Unit)⊕(Bool)) (fun i=>
 bif decide (i < (List.length a:Int)) then
 chk (decide ((0:Int)≤i)&&decide (i < (List.length a:Int))) (
 chk (decide ((0:Int)≤i)&&decide (i < (List.length b:Int))) (
 bif !y0m (lget ByteArray.empty a i) (lget ByteArray.empty b i) then
 Option.map Sum.inr (Option.map Sum.inr (
 some false))
 else
 some (.inl (wi64 (i+1)))))
 else
 some (.inr (.inl ()))) 0).bind fun j=>match j with
 |.inl _=>(
 some true)
 |.inr r=>some r
theorem y1v(a:(List ByteArray))(b:(List ByteArray)):Lq (zpp a b) (zol a b):=by
 unfold zpp zol;try simp only[zrf]
 repeat' with_reducible first|exact z0e _|apply z1w|apply z0i|apply z11|apply z0n|apply z1v|apply z1u|(refine z0g (fun _ => ?_) (fun _ => ?_)<;>dsimp only)|(intro _;try dsimp only)|dsimp only
def zty(a:(List Int))(b:(List Int)):Option (Bool):=
 bif ((List.length a:Int) != (List.length b:Int)) then
 some false
 else
 (zda (S:=Int) (R:=(Unit)⊕(Bool)) (fun i=>
 bif decide (i < (List.length a:Int)) then
 chk (decide ((0:Int)≤i)&&decide (i < (List.length a:Int))) (
 chk (decide ((0:Int)≤i)&&decide (i < (List.length b:Int))) (
 bif ((lget 0 a i) != (lget 0 b i)) then
 Option.map Sum.inr (Option.map Sum.inr (
 some false))
 else
 some (.inl (wi64 (i+1)))))
 else
 some (.inr (.inl ()))) 0).bind fun j=>match j with
 |.inl _=>(
 some true)
 |.inr r=>some r
theorem y5u(a:(List Int))(b:(List Int)):Lq (zty a b) (ztj a b):=by
 unfold zty ztj;repeat' with_reducible first|exact z0e _|apply z1w|apply z0i|apply z11|apply z0n|apply z1v|apply z1u|(refine z0g (fun _ => ?_) (fun _ => ?_)<;>dsimp only)|(intro _;try dsimp only)|dsimp only
def zw3:Option (Bool):=
 (z8d (bytes [97,45,49,32,119,105,100,116,104,32,49,50,48,48,32,109,109,32,116,104,105,99,107,110,101,115,115,32,51,32,109,109,32,103,114,97,100,101,32,53,32,116,111,108,101,114,97,110,99,101,32,53,48,32,117,109,32,100,117,101,32,49,50])).bind fun(r:z00×Int×Int)=>
 (z8e ((bytes [115]),(5,(200000,(1250,8000)))) r.1).bind fun(r_1:z0t×Int)=>
 (ztw).bind fun(t:(List (List ByteArray)))=>
 (z96 t [(bytes [97]),(bytes [99])]).bind fun(r_2:(List ByteArray)×Int)=>
 (zl0).bind fun(t_1:z0f)=>
 (zl1).bind fun(t_2:(List z03))=>
 (zf1 t_1 t_2).bind fun(r_3:(List Int)×Int×Int)=>
 (zl0).bind fun(t_3:z0f)=>
 (zl1).bind fun(t_4:(List z03))=>
 (zba t_3 t_4 [0,20,0]).bind fun(r_4:Int×Int)=>
 (bif ((r.2.2 == 0)&&(r_1.2 == 0)) then
 some (Ty.eqb z0d r_1.1 (546448,564972))
 else some false).bind fun(c:Bool)=>
 (bif (c&&(r_2.2 == 0)) then
 (zpp r_2.1 [(bytes [98]),(bytes [99])]).bind fun(t_5:Bool)=>
 some t_5
 else some false).bind fun(c_1:Bool)=>
 (bif (c_1&&(r_3.2.2 == 0)) then
 (zty r_3.1 [1,0,2]).bind fun(t_6:Bool)=>
 some t_6
 else some false).bind fun(c_2:Bool)=>
 let t_7:Bool:=(((c_2&&(r_3.2.1 == 270))&&(r_4.2 == 0))&&(r_4.1 == 160))
 some t_7
theorem y1s:Lq (zw3) (zhn):=by
 unfold zw3 zhn;repeat' with_reducible first|exact z0e _|apply zih|apply zii|apply y5t|apply zje|apply y1t|apply y1u|apply zl9|apply zme|apply y1v|apply y5u|apply z1w|apply z0i|apply z11|apply z0n|apply z1v|apply z1u|(refine z0g (fun _ => ?_) (fun _ => ?_)<;>dsimp only)|(intro _;try dsimp only)|dsimp only
theorem y6h:zhn=some true:=y1s _ (by kernel_rfl)
end Go.Lift
end
