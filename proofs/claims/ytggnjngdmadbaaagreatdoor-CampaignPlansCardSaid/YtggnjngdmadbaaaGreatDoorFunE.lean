/-
  The chapter's examples.
-/
import Derived.Test.YtggnjngdmadbaaaGreatDoorPlainA
noncomputable section
set_option linter.all false
namespace Go.Lift
open Go
def Lq{A:Type}(a b:Option A):Prop:=∀v,a=some v→b=some v
theorem vK{A:Type}(a:Option A):Lq a a:=fun _ h=>h
theorem vV{A B:Type}{a a':Option A}{f f':A→Option B}(h:Lq a a')(k:∀x,Lq (f x) (f' x)):Lq (a.bind f) (a'.bind f'):=by
 intro v hv;obtain⟨x,hx,hf⟩:=qi.1 hv;exact qi.2 ⟨x,h x hx,k x v hf⟩
theorem ww{A:Type}{c:Bool}{a a' b b':Option A}(h:Lq a a')(k:Lq b b'):Lq (bif c then a else b) (bif c then a' else b'):=by
 cases c<;>assumption
theorem wT{A:Type}{c:Bool}{a a':Option A}(h:Lq a a'):Lq (chk c a) (chk c a'):=by
 unfold chk;exact ww h (vK _)
theorem wU{A B:Type}{g:A→B}{a a':Option A}(h:Lq a a'):Lq (Option.map g a) (Option.map g a'):=by
 intro v hv;obtain⟨x,hx,hf⟩:=qB.1 hv;exact qB.2 ⟨x,h x hx,hf⟩
def XH{S R:Type}(f:S→Option (S⊕R))(s:S):Option R:=V6 f 300 s
theorem y4p{S R:Type}{f f':S→Option (S⊕R)}(h:∀s,Lq (f s) (f' s)):∀(n:Nat) (s:S),Lq (V6 f n s) (V6 f' n s)
 |0,s=>fun v hv=>by simp[V6]at hv
 | n+1,s=>fun v hv=>by
  unfold V6 at hv⊢;cases hf:f s with
  |none=>rw[hf]at hv;cases hv
  |some j=>
   rw[hf]at hv;rw[h s j hf];cases j with
   |inl s'=>exact y4p h n s' v hv
   |inr r=>exact hv
theorem wV{S R:Type}{f f':S→Option (S⊕R)}{s:S}(h:∀s,Lq (f s) (f' s)):Lq (XH f s) (vz f' s):=
 fun _ hv=>TP (y4p h 300 s _ hv)
theorem wW{A B C:Type}{f g:A⊕B→Option C}(h1:∀a,Lq (f (.inl a)) (g (.inl a)))(h2:∀b,Lq (f (.inr b)) (g (.inr b))):∀j,Lq (f j) (g j):=by
 intro j;cases j with
 |inl a=>exact h1 a
 |inr b=>exact h2 b
def cC(a b:js):Bool:=a.data.toList==b.data.toList
def sx(a b:js):Option js:=if a.size+b.size≤4294967296 then some ⟨(a.data.toList++b.data.toList).toArray⟩else none
theorem I5(b:js):b.toList=b.data.toList:=by
 have h:∀(n i:Nat) (r:List UInt8),b.size-i=n→ByteArray.toList.loop b i r=r.reverse++b.data.toList.drop i:=by
  intro n;induction n with
  |zero=>
   intro i r hn;unfold ByteArray.toList.loop;rw[qT (by omega),List.drop_eq_nil_of_le (show b.data.toList.length≤i by show b.size≤i;omega),qL]
  |succ n ih=>
   intro i r hn;unfold ByteArray.toList.loop;have hi:i<b.size:=by omega
   rw[qH hi,ih (i+1) _ (by omega)];have Fi:i<b.data.toList.length:=hi;rw[xr Fi,List.reverse_cons,zM];congr 1
   show[b.get! i]++_=_;have:b.get! i=b.data.toList[i]:=by
    unfold ByteArray.get!;show b.data[i]! = _;rw[getElem!_pos b.data i hi];rfl
   rw[this];rfl
 have:=h b.size 0 [] rfl;rw[List.reverse_nil,qP,yz]at this;exact this
theorem mn(a b:js):jO a b=cC a b:=by unfold jO cC;rw[I5,I5]
theorem wS(a b:js):Lq (sx a b) (cat a b):=by
 intro v hv;unfold sx at hv;unfold cat
 split at hv
 ·rename_i h;rw[qH h];rw[←hv];congr 1
 ·cases hv
def Rq(n:Int):Option js:=
 bif n==3 then some (bytes [51])else bif n==5 then some (bytes [53])else bif n==12 then some (bytes [49,50])else bif n==50 then some (bytes [53,48])else bif n==1200 then some (bytes [49,50,48,48])else none
theorem zt5(n:Int):Lq (Rq n) (strconv_Itoa n):=by
 intro v hv;unfold Rq at hv;by_cases h3:n=3
 ·subst h3;have e:some (bytes [51])=some v:=hv;rw[←e];simp[strconv_Itoa,Lib.itoa,Lib.decDigits,bytes]
 rw[show(n==3)=false by rw[qU];exact h3,qu]at hv;by_cases h5:n=5
 ·subst h5;have e:some (bytes [53])=some v:=hv;rw[←e];simp[strconv_Itoa,Lib.itoa,Lib.decDigits,bytes]
 rw[show(n==5)=false by rw[qU];exact h5,qu]at hv;by_cases h12:n=12
 ·subst h12;have e:some (bytes [49,50])=some v:=hv;rw[←e];simp[strconv_Itoa,Lib.itoa,Lib.decDigits,bytes]
 rw[show(n==12)=false by rw[qU];exact h12,qu]at hv;by_cases h50:n=50
 ·subst h50;have e:some (bytes [53,48])=some v:=hv;rw[←e];simp[strconv_Itoa,Lib.itoa,Lib.decDigits,bytes]
 rw[show(n==50)=false by rw[qU];exact h50,qu]at hv;by_cases aL:n=1200
 ·subst aL;have e:some (bytes [49,50,48,48])=some v:=hv;rw[←e];simp[strconv_Itoa,Lib.itoa,Lib.decDigits,bytes]
 rw[show(n==1200)=false by rw[qU];exact aL,qu]at hv;cases hv
def zme(s:js):Option (Int×Bool):=strconv_Atoi s
theorem zt6(s:js):Lq (zme s) (strconv_Atoi s):=vK _
def WM(n:Int)(lo:Int)(hi:Int):Option (Bool):=
 let t:Bool:=((decide (lo≤n))&&(decide (n≤hi)))
 some t
theorem Eo(n:Int)(lo:Int)(hi:Int):Lq (WM n lo hi) (Vt n lo hi):=by
 unfold WM Vt;repeat' with_reducible first|exact vK _|apply wS|apply vV|apply wV|apply ww|apply wT|apply wU|(refine wW (fun _ =>?_) (fun _ =>?_)<;>dsimp only)|(intro _;try dsimp only)|dsimp only
def iH(s:js):Option (Bool):=
 (XH (S:=Int) (R:=(Unit)⊕(Bool)) (fun t=>
 bif decide (t<(List.length (Zj s):Int))then
 chk (decide ((0:Int)≤t)&&decide (t<(List.length (Zj s):Int))) (
 let c:Int:=jt 0 (Zj s) t
 (WM (jv c) 97 122).bind fun(jQ:Bool)=>
 (bif jQ then some true else
 (WM (jv c) 65 90).bind fun(vb:Bool)=>
 some vb).bind fun(ZV:Bool)=>
 (bif !ZV then
 (bif (t==0)then some true else
 (bif (c !=45)then
 (WM (jv c) 48 57).bind fun(vw:Bool)=>
 some (!vw)
 else some false).bind fun(Xu:Bool)=>
 some Xu).bind fun(F6:Bool)=>
 some F6
 else some false).bind fun(fO:Bool)=>
 bif fO then
 Option.map Sum.inr (Option.map Sum.inr (
 some false))
 else
 some (.inl (jv (t+1))))
 else
 some (.inr (.inl ()))) 0).bind fun j=>match j with
 |.inl _=>(
 (WM (ByteArray.size s:Int) 1 12).bind fun(wq:Bool)=>
 some wq)
 |.inr r=>some r
theorem ux(s:js):Lq (iH s) (GU s):=by
 unfold iH GU;repeat' with_reducible first|exact vK _|apply Eo|apply wS|apply vV|apply wV|apply ww|apply wT|apply wU|(refine wW (fun _ =>?_) (fun _ =>?_)<;>dsimp only)|(intro _;try dsimp only)|dsimp only
def nB(n:Int):Option (Bool):=
 (WM n 1 99).bind fun(t:Bool)=>
 some t
theorem RP(n:Int):Lq (nB n) (bU n):=by
 unfold nB bU;repeat' with_reducible first|exact vK _|apply Eo|apply wS|apply vV|apply wV|apply ww|apply wT|apply wU|(refine wW (fun _ =>?_) (fun _ =>?_)<;>dsimp only)|(intro _;try dsimp only)|dsimp only
def nL(n:Int):Option (Bool):=
 (WM n 1 300000).bind fun(t:Bool)=>
 some t
theorem Pa(n:Int):Lq (nL n) (ce n):=by
 unfold nL ce;repeat' with_reducible first|exact vK _|apply Eo|apply wS|apply vV|apply wV|apply ww|apply wT|apply wU|(refine wW (fun _ =>?_) (fun _ =>?_)<;>dsimp only)|(intro _;try dsimp only)|dsimp only
def nC(n:Int):Option (Bool):=
 (WM n 500 2500).bind fun(t:Bool)=>
 some t
theorem RQ(n:Int):Lq (nC n) (bV n):=by
 unfold nC bV;repeat' with_reducible first|exact vK _|apply Eo|apply wS|apply vV|apply wV|apply ww|apply wT|apply wU|(refine wW (fun _ =>?_) (fun _ =>?_)<;>dsimp only)|(intro _;try dsimp only)|dsimp only
def uv(n:Int):Option (Bool):=
 (WM n 0 20000).bind fun(t:Bool)=>
 some t
theorem zoj(n:Int):Lq (uv n) (iD n):=by
 unfold uv iD;repeat' with_reducible first|exact vK _|apply Eo|apply wS|apply vV|apply wV|apply ww|apply wT|apply wU|(refine wW (fun _ =>?_) (fun _ =>?_)<;>dsimp only)|(intro _;try dsimp only)|dsimp only
def Vu(is:Bool)(e:Int):Option (Int):=
 bif is then
 some 0
 else
 some e
theorem AK(is:Bool)(e:Int):Lq (Vu is e) (Z1 is e):=by
 unfold Vu Z1;repeat' with_reducible first|exact vK _|apply wS|apply vV|apply wV|apply ww|apply wT|apply wU|(refine wW (fun _ =>?_) (fun _ =>?_)<;>dsimp only)|(intro _;try dsimp only)|dsimp only
def Cj(l:(List Int)):Option (Int):=
 (XH (S:=Int) (R:=(Unit)⊕(Int)) (fun t=>
 bif decide (t<(l.length:Int))then
 chk (decide ((0:Int)≤t)&&decide (t<(l.length:Int))) (
 bif ((jt 0 l t)!=0)then
 Option.map Sum.inr (Option.map Sum.inr (
 some (jt 0 l t)))
 else
 some (.inl (jv (t+1))))
 else
 some (.inr (.inl ()))) 0).bind fun j=>match j with
 |.inl _=>(
 some 0)
 |.inr r=>some r
theorem bY(l:(List Int)):Lq (Cj l) (Jb l):=by
 unfold Cj Jb;repeat' with_reducible first|exact vK _|apply wS|apply vV|apply wV|apply ww|apply wT|apply wU|(refine wW (fun _ =>?_) (fun _ =>?_)<;>dsimp only)|(intro _;try dsimp only)|dsimp only
def uF(o:vn):Option (Int):=
 (nB o.2.1).bind fun(t:Bool)=>
 (bif t then
 (nL o.2.2.1).bind fun(jQ:Bool)=>
 some jQ
 else some false).bind fun(c:Bool)=>
 (bif c then
 (WM o.2.2.2.1 0 (jv (o.2.2.1-1))).bind fun(vb:Bool)=>
 some vb
 else some false).bind fun(ZV:Bool)=>
 (bif ZV then
 (nC o.2.2.2.2.1).bind fun(vw:Bool)=>
 some vw
 else some false).bind fun(Xu:Bool)=>
 (bif Xu then
 (uv o.2.2.2.2.2.1.1).bind fun(wq:Bool)=>
 some wq
 else some false).bind fun(F6:Bool)=>
 (bif F6 then
 (uv o.2.2.2.2.2.1.2).bind fun(wD:Bool)=>
 some wD
 else some false).bind fun(fO:Bool)=>
 (iH o.1).bind fun(Qs:Bool)=>
 (Vu Qs 4).bind fun(Vz:Int)=>
 (Vu fO 2).bind fun(HU:Int)=>
 (Vu (decide (o.2.2.2.2.2.1.1≤o.2.2.2.2.2.1.2)) 9).bind fun(Er:Int)=>
 chk (10 !=0) (
 let YZ:Int:=Int.tmod o.2.2.2.2.2.1.1 10
 (bif (YZ==0)then
 chk (10 !=0) (
 let VA:Int:=Int.tmod o.2.2.2.2.2.1.2 10
 some (VA==0))
 else some false).bind fun(MP:Bool)=>
 (Vu MP 3).bind fun(K7:Int)=>
 (WM o.2.2.2.2.2.2 0 100000).bind fun(K6:Bool)=>
 (Vu K6 2).bind fun(HV:Int)=>
 (Cj [Vz,HU,Er,K7,HV]).bind fun(cN:Int)=>
 some cN)
theorem zbo(o:vn):Lq (uF o) (EY o):=by
 unfold uF EY;repeat' with_reducible first|exact vK _|apply Eo|apply ux|apply RP|apply Pa|apply RQ|apply zoj|apply AK|apply bY|apply wS|apply vV|apply wV|apply ww|apply wT|apply wU|(refine wW (fun _ =>?_) (fun _ =>?_)<;>dsimp only)|(intro _;try dsimp only)|dsimp only
def RB(s:js):Option (Int×Bool):=
 (zme s).bind fun(r:Int×Bool)=>
 (bif (r.2&&(decide (r.1≥0)))then
 (Rq r.1).bind fun(t:js)=>
 some (cC t s)
 else some false).bind fun(c:Bool)=>
 let jQ:Bool:=(c&&(decide ((ByteArray.size s:Int)≤6)))
 some (r.1,jQ)
theorem zoi(s:js):Lq (RB s) (iF s):=by
 unfold RB iF;try simp only[mn]
 repeat' with_reducible first|exact vK _|apply zt6|apply zt5|apply wS|apply vV|apply wV|apply ww|apply wT|apply wU|(refine wW (fun _ =>?_) (fun _ =>?_)<;>dsimp only)|(intro _;try dsimp only)|dsimp only
def tG(ws:List js)(i:Int):Option (Option Int):=(RB (wo ws i)).bind fun r=>some (bif r.2 then some r.1 else none)
theorem U0(ws:List js)(i:Int):Lq (tG ws i) (CV ws i):=vV (zoi _) fun _=>vK _
def Tt(us:List (js×Int))(ws:List js)(i:Int):Option Int:=if i<(ws.length:Int)then(us.find? fun p=>cC (wo ws i) p.1).map (·.2)else none
theorem y3n(us:List (js×Int))(ws:List js)(i:Int):WG us ws i=Tt us ws i:=by
 unfold WG Tt SB;simp only[mn]
def tC(w:js):Option Nat:=il.findIdx? fun c=>cC c w
theorem zyl(w:js):Fw w=tC w:=by
 unfold Fw tC;simp only[mn]
def bM(us:List (js×Int))(ws:List js)(i:Int):Option (Int⊕Int):=
 (tG ws i).bind fun n=>match n with
  |none=>some (.inl i)
  |some n=>match Tt us ws (i+1)with
   |none=>some (.inl (i+1))
   |some b=>some (.inr (jv (n*b)))
theorem nk(us:List (js×Int))(ws:List js)(i:Int):Lq (bM us ws i) (El us ws i):=by
 unfold El bM;simp only[y3n];exact vV (U0 _ _) fun _=>vK _
def LA(k:Nat)(ws:List js)(o:vn)(i:Int):Option (Int⊕(vn×Int)):=
 match k with
 |0=>(tG ws i).bind fun n=>match n with
  |none=>some (.inl i)
  |some n=>some (.inr ((o.1,(n,o.2.2)),i+1))
 |1=>(bM D8 ws i).bind fun v=>match v with
  |.inl j=>some (.inl j)
  |.inr v=>some (.inr ((o.1,(o.2.1,(v,o.2.2.2))),i+2))
 |2=>(bM D8 ws i).bind fun v=>match v with
  |.inl j=>some (.inl j)
  |.inr v=>some (.inr ((o.1,(o.2.1,(o.2.2.1,(v,o.2.2.2.2)))),i+2))
 |3=>(bM EZ ws i).bind fun v=>match v with
  |.inl j=>some (.inl j)
  |.inr v=>some (.inr ((o.1,(o.2.1,(o.2.2.1,(o.2.2.2.1,(v,o.2.2.2.2.2))))),i+2))
 | 4=>(bM HT ws i).bind fun v=>match v with
  |.inl j=>some (.inl j)
  |.inr v=>(bM cJ ws (i+2)).bind fun u=>match u with
   |.inl j=>some (.inl j)
   |.inr u=>some (.inr ((o.1,(o.2.1,(o.2.2.1,(o.2.2.2.1,(o.2.2.2.2.1,((v,u),o.2.2.2.2.2.2)))))),i+4))
 |_=>(tG ws i).bind fun n=>match n with
  |none=>some (.inl i)
  |some n=>some (.inr ((o.1,(o.2.1,(o.2.2.1,(o.2.2.2.1,(o.2.2.2.2.1,(o.2.2.2.2.2.1,n)))))),i+1))
theorem y2o(k:Nat)(ws:List js)(o:vn)(i:Int):Lq (LA k ws o i) (TX k ws o i):=by
 match k with
 |0=>exact vV (U0 _ _) fun _=>vK _
 |1=>exact vV (nk _ _ _) fun _=>vK _
 |2=>exact vV (nk _ _ _) fun _=>vK _
 |3=>exact vV (nk _ _ _) fun _=>vK _
 |4=>
  refine vV (nk _ _ _) fun v =>?_
  cases v with
  |inl _=>exact vK _
  |inr _=>exact vV (nk _ _ _) fun _=>vK _
 |k+5=>exact vV (U0 _ _) fun _=>vK _
def ua(ws:List js):Nat→vn→Int→(Nat→Bool)→Option ((Int×Int)⊕(vn×(Nat→Bool)))
 |0,_,_,_=>none
 | n+1,o,i,given=>if i<(ws.length:Int)then match tC (wo ws i)with
   |none=>some (.inl (i,7))
   |some k=>bif given k then some (.inl (i,23))else(LA k ws o (i+1)).bind fun r=>match r with
    |.inl j=>some (.inl (j,7))
    |.inr r=>ua ws n r.1 r.2 (vH given k true)
  else some (.inr (o,given))
theorem zqk(ws:List js):∀(n:Nat) (o:vn) (i:Int) (given:Nat→Bool),Lq (ua ws n o i given) (bG ws n o i given)
 |0,_,_,_=>vK _
 | n+1,o,i,given=>by
  unfold ua bG;rw[zyl];split
  ·cases tC (wo ws i)with
   |none=>exact vK _
   |some k=>
    refine ww (vK _) (vV (y2o _ _ _ _) fun r =>?_);cases r with
    |inl _=>exact vK _
    |inr r=>exact zqk ws n _ _ _
  ·exact vK _
def RX(s:js):Option (vn×Int×Int):=
 (strings_Split s (bytes [32])).bind fun ws=>(iH (wo ws 0)).bind fun is=>bif !is then some (Yv,0,7)else
  (ua ws (ws.length+1) (wo ws 0,(0,(0,(0,(0,((0,20000),0)))))) 1 (fun _=>false)).bind fun r=>match r with
   |.inl f=>some (Yv,f.1,f.2)
   |.inr r=>bif !(r.2 0&&r.2 1&&r.2 3)then some (Yv,0,14)else(uF r.1).bind fun e=>bif e !=0 then some (Yv,0,e)else some (r.1,0,0)
theorem zio(s:js):Lq (RX s) (iK s):=by
 unfold RX iK;refine vV (vK _) fun ws=>vV (ux _) fun is=>ww (vK _) (vV (zqk _ _ _ _ _) fun r =>?_)
 cases r with
 |inl _=>exact vK _
 |inr r=>exact ww (vK _) (vV (zbo _) fun _=>vK _)
def RT(s:En):Option (Int):=
 (nB s.2.1).bind fun(t:Bool)=>
 (bif t then
 (nL s.2.2.1).bind fun(jQ:Bool)=>
 some jQ
 else some false).bind fun(c:Bool)=>
 (bif c then
 (nC s.2.2.2.1).bind fun(vb:Bool)=>
 some vb
 else some false).bind fun(ZV:Bool)=>
 (bif ZV then
 (WM s.2.2.2.2 1 20000).bind fun(vw:Bool)=>
 some vw
 else some false).bind fun(Xu:Bool)=>
 (iH s.1).bind fun(wq:Bool)=>
 (Vu wq 4).bind fun(wD:Int)=>
 (Vu Xu 2).bind fun(Qs:Int)=>
 (Cj [wD,Qs]).bind fun(Vz:Int)=>
 some Vz
theorem zjn(s:En):Lq (RT s) (nF s):=by
 unfold RT nF;repeat' with_reducible first|exact vK _|apply Eo|apply ux|apply RP|apply Pa|apply RQ|apply AK|apply bY|apply wS|apply vV|apply wV|apply ww|apply wT|apply wU|(refine wW (fun _ =>?_) (fun _ =>?_)<;>dsimp only)|(intro _;try dsimp only)|dsimp only
def Rx(s:En)(o:vn):Option (Bool):=
 (bif (s.2.1==o.2.1)then
 (WM s.2.2.2.1 o.2.2.2.2.1 (jv (o.2.2.2.2.1+100))).bind fun(t:Bool)=>
 some t
 else some false).bind fun(c:Bool)=>
 some c
theorem zpr(s:En)(o:vn):Lq (Rx s o) (nr s o):=by
 unfold Rx nr;repeat' with_reducible first|exact vK _|apply Eo|apply wS|apply vV|apply wV|apply ww|apply wT|apply wU|(refine wW (fun _ =>?_) (fun _ =>?_)<;>dsimp only)|(intro _;try dsimp only)|dsimp only
def RW(s:En)(o:vn):Option (Z0×Int):=
 (RT s).bind fun(t:Int)=>
 (uF o).bind fun(jQ:Int)=>
 (Rx s o).bind fun(vb:Bool)=>
 (Vu vb 13).bind fun(vw:Int)=>
 (Cj [t,jQ,vw]).bind fun(wq:Int)=>
 bif (wq !=0)then
 some ((0,0),wq)
 else
 let Vx:Int:=jv ((jv (s.2.2.1*s.2.2.2.1))*s.2.2.2.2)
 let thin:Int:=jv ((jv (o.2.2.1-o.2.2.2.1))*o.2.2.2.2.1)
 let Je:Int:=jv ((jv (o.2.2.1+o.2.2.2.1))*o.2.2.2.2.1)
 chk (Je !=0) (
 let wD:Int:=jv (Int.tdiv Vx Je)
 chk (thin !=0) (
 let Qs:Int:=jv (Int.tdiv (jv ((jv (Vx+thin))-1)) thin)
 some ((wD,Qs),0)))
theorem ziq(s:En)(o:vn):Lq (RW s o) (z59 s o):=by
 unfold RW z59;repeat' with_reducible first|exact vK _|apply AK|apply bY|apply zbo|apply zjn|apply zpr|apply wS|apply vV|apply wV|apply ww|apply wT|apply wU|(refine wW (fun _ =>?_) (fun _ =>?_)<;>dsimp only)|(intro _;try dsimp only)|dsimp only
def T9:Option ((List (List js))):=
 let t:(List (List js)):=[[(bytes [97]),(bytes [98]),(bytes [99])],[(bytes [100])],[]]
 some t
theorem y6q:Lq (T9) (l5):=by
 unfold T9 l5;repeat' with_reducible first|exact vK _|apply wS|apply vV|apply wV|apply ww|apply wT|apply wU|(refine wW (fun _ =>?_) (fun _ =>?_)<;>dsimp only)|(intro _;try dsimp only)|dsimp only
def RU(y:(List (List js))):Option (Int×Int):=
 (Vu (decide ((y.length:Int)>0)) 10).bind fun(t:Int)=>
 (Vu (decide ((y.length:Int)≤4)) 8).bind fun(jQ:Int)=>
 (Cj [t,jQ]).bind fun(vb:Int)=>
 bif (vb !=0)then
 some (0,vb)
 else
 (XH (S:=Int×(List (js×Bool))) (R:=((List (js×Bool)))⊕(Int×Int)) (fun s=>
 let vw:Int:=s.1
 let wq:(List (js×Bool)):=s.2
 bif decide (vw<(y.length:Int))then
 chk (decide ((0:Int)≤vw)&&decide (vw<(y.length:Int))) (
 bif decide ((List.length (jt [] y vw):Int)>6)then
 Option.map Sum.inr (Option.map Sum.inr (
 some (vw,8)))
 else
 (XH (S:=Int×(List (js×Bool))) (R:=((List (js×Bool)))⊕((Int×(List (js×Bool)))⊕(((List (js×Bool)))⊕(Int×Int)))) (fun Qq=>
 let wD:Int:=Qq.1
 let Qs:(List (js×Bool)):=Qq.2
 bif decide (wD<(List.length (jt [] y vw):Int))then
 chk (decide ((0:Int)≤wD)&&decide (wD<(List.length (jt [] y vw):Int))) (
 let name:js:=jt ByteArray.empty (jt [] y vw) wD
 (iH name).bind fun(Vz:Bool)=>
 (Vu Vz 4).bind fun(HU:Int)=>
 (Vu (!(wK .str .bool Qs name)) 5).bind fun(Er:Int)=>
 (Cj [HU,Er]).bind fun(YZ:Int)=>
 bif (YZ !=0)then
 Option.map Sum.inr (Option.map Sum.inr (
 Option.map Sum.inr (Option.map Sum.inr (
 some (vw,YZ)))))
 else
 let VA:(List (js×Bool)):=ZP .str .bool Qs name true
 some (.inl (jv (wD+1),VA)))
 else
 some (.inr (.inl Qs))) (0,wq)).bind fun j=>match j with
 |.inl K7=>(
 some (.inl (jv (vw+1),K7)))
 |.inr r=>some r)
 else
 some (.inr (.inl wq))) (0,[])).bind fun j=>match j with
 |.inl K6=>(
 (Vu (decide ((K6.length:Int)≤8)) 8).bind fun(HV:Int)=>
 some (0,HV))
 |.inr r=>some r
theorem zjm(y:(List (List js))):Lq (RU y) (AJ y):=by
 unfold RU AJ;repeat' with_reducible first|exact vK _|apply ux|apply AK|apply bY|apply wS|apply vV|apply wV|apply ww|apply wT|apply wU|(refine wW (fun _ =>?_) (fun _ =>?_)<;>dsimp only)|(intro _;try dsimp only)|dsimp only
def R0(x:List js):Option (List js):=app [] x
theorem zil(x:List js):Lq (R0 x) (slices_Clone_string x):=by
 unfold R0 slices_Clone_string;repeat' with_reducible first|exact vK _|apply wS|apply vV|apply wV|apply ww|apply wT|apply wU|(refine wW (fun _ =>?_) (fun _ =>?_)<;>dsimp only)|(intro _;try dsimp only)|dsimp only
def RZ(y:(List (List js))):Option ((List (List js))):=
 (XH (S:=(List (List js))×Int) (R:=(List (List js))) (fun s=>
 let out:(List (List js)):=s.1
 let t:Int:=s.2
 bif decide (t<(y.length:Int))then
 chk (decide ((0:Int)≤t)&&decide (t<(y.length:Int))) (
 (R0 (jt [] y t)).bind fun(jQ:(List js))=>
 (app out [jQ]).bind fun(vb:List (List js))=>
 some (.inl (vb,jv (t+1))))
 else
 some (.inr out)) ([],0)).bind fun(wh:(List (List js)))=>
 some wh
theorem zim(y:(List (List js))):Lq (RZ y) (ca y):=by
 unfold RZ ca;repeat' with_reducible first|exact vK _|apply zil|apply wS|apply vV|apply wV|apply ww|apply wT|apply wU|(refine wW (fun _ =>?_) (fun _ =>?_)<;>dsimp only)|(intro _;try dsimp only)|dsimp only
def RL(y:(List (List js))):Option ((List (List js))×Int):=
 (RU y).bind fun(r:Int×Int)=>
 (RZ y).bind fun(t:(List (List js)))=>
 some (t,r.2)
theorem zlm(y:(List (List js))):Lq (RL y) (bX y):=by
 unfold RL bX;repeat' with_reducible first|exact vK _|apply zjm|apply zim|apply wS|apply vV|apply wV|apply ww|apply wT|apply wU|(refine wW (fun _ =>?_) (fun _ =>?_)<;>dsimp only)|(intro _;try dsimp only)|dsimp only
def Pg(s:(List (List js)))(f:((List js)→Option Bool)):Option (Int):=
 (XH (S:=Int) (R:=(Unit)⊕(Int)) (fun t=>
 bif decide (t<(s.length:Int))then
 chk (decide ((0:Int)≤t)&&decide (t<(s.length:Int))) (
 (f (jt [] s t)).bind fun(jQ:Bool)=>
 bif jQ then
 Option.map Sum.inr (Option.map Sum.inr (
 some t))
 else
 some (.inl (jv (t+1))))
 else
 some (.inr (.inl ()))) 0).bind fun j=>match j with
 |.inl _=>(
 some (-1))
 |.inr r=>some r
theorem zfd(s:(List (List js))){f f':((List js)→Option Bool)}(Gn:∀x,Lq (f x) (f' x)):Lq (Pg s f) (iP s f'):=by
 unfold Pg iP;repeat' with_reducible first|exact vK _|exact Gn _|apply wS|apply vV|apply wV|apply ww|apply wT|apply wU|(refine wW (fun _ =>?_) (fun _ =>?_)<;>dsimp only)|(intro _;try dsimp only)|dsimp only
def Pl(s:(List (List js)))(f:((List js)→Option Bool)):Option (Bool):=
 (Pg s f).bind fun(t:Int)=>
 some (decide (t≥0))
theorem zdd(s:(List (List js))){f f':((List js)→Option Bool)}(Gn:∀x,Lq (f x) (f' x)):Lq (Pl s f) (AL s f'):=by
 unfold Pl AL;repeat' with_reducible first|exact vK _|exact Gn _|apply zfd|apply wS|apply vV|apply wV|apply ww|apply wT|apply wU|(refine wW (fun _ =>?_) (fun _ =>?_)<;>dsimp only)|(intro _;try dsimp only)|dsimp only
def nK(s:(List js))(v:js):Option (Int):=
 (XH (S:=Int) (R:=(Unit)⊕(Int)) (fun t=>
 bif decide (t<(s.length:Int))then
 chk (decide ((0:Int)≤t)&&decide (t<(s.length:Int))) (
 bif cC v (jt ByteArray.empty s t)then
 Option.map Sum.inr (Option.map Sum.inr (
 some t))
 else
 some (.inl (jv (t+1))))
 else
 some (.inr (.inl ()))) 0).bind fun j=>match j with
 |.inl _=>(
 some (-1))
 |.inr r=>some r
theorem zbl(s:(List js))(v:js):Lq (nK s v) (jR s v):=by
 unfold nK jR;try simp only[mn]
 repeat' with_reducible first|exact vK _|apply wS|apply vV|apply wV|apply ww|apply wT|apply wU|(refine wW (fun _ =>?_) (fun _ =>?_)<;>dsimp only)|(intro _;try dsimp only)|dsimp only
def nP(s:(List js))(v:js):Option (Bool):=
 (nK s v).bind fun(t:Int)=>
 some (decide (t≥0))
theorem Ph(s:(List js))(v:js):Lq (nP s v) (jM s v):=by
 unfold nP jM;repeat' with_reducible first|exact vK _|apply zbl|apply wS|apply vV|apply wV|apply ww|apply wT|apply wU|(refine wW (fun _ =>?_) (fun _ =>?_)<;>dsimp only)|(intro _;try dsimp only)|dsimp only
def Pb(pile:(List js))(x:js):Option (Bool):=
 (nP pile x).bind fun(t:Bool)=>
 some t
theorem zgi(pile:(List js))(x:js):Lq (Pb pile x) (ck pile x):=by
 unfold Pb ck;repeat' with_reducible first|exact vK _|apply Ph|apply wS|apply vV|apply wV|apply ww|apply wT|apply wU|(refine wW (fun _ =>?_) (fun _ =>?_)<;>dsimp only)|(intro _;try dsimp only)|dsimp only
def R1(y:(List (List js)))(request:(List js)):Option ((List (List js))×Int):=
 (RL y).bind fun(r:(List (List js))×Int)=>
 bif (r.2 !=0)then
 some ([],r.2)
 else
 (XH (S:=Int) (R:=(Unit)⊕((List (List js))×Int)) (fun t=>
 bif decide (t<(request.length:Int))then
 chk (decide ((0:Int)≤t)&&decide (t<(request.length:Int))) (
 let name:js:=jt ByteArray.empty request t
 (Pl y (fun x=>Pb x name)).bind fun(jQ:Bool)=>
 (Vu (!(!jQ)) 6).bind fun(vb:Int)=>
 chk (decide ((0:Int)≤0)&&decide ((0:Int)≤t)&&decide (t≤(request.length:Int))) (
 (nP (List.drop (Int.toNat 0) (List.take (Int.toNat t) request)) name).bind fun(vw:Bool)=>
 (Vu (!vw) 23).bind fun(wq:Int)=>
 (Cj [vb,wq]).bind fun(wD:Int)=>
 bif (wD !=0)then
 Option.map Sum.inr (Option.map Sum.inr (
 some ([],wD)))
 else
 some (.inl (jv (t+1)))))
 else
 some (.inr (.inl ()))) 0).bind fun j=>match j with
 |.inl _=>(
 some (r.1,0))
 |.inr r=>some r
theorem zhs(y:(List (List js)))(request:(List js)):Lq (R1 y request) (C7 y request):=by
 unfold R1 C7;repeat' with_reducible first|exact vK _|apply AK|apply bY|apply zlm|apply zdd|apply Ph|apply zgi|apply wS|apply vV|apply wV|apply ww|apply wT|apply wU|(refine wW (fun _ =>?_) (fun _ =>?_)<;>dsimp only)|(intro _;try dsimp only)|dsimp only
def Pm(s:(List js))(f:(js→Option Bool)):Option (Int):=
 (XH (S:=Int) (R:=(Unit)⊕(Int)) (fun t=>
 bif decide (t<(s.length:Int))then
 chk (decide ((0:Int)≤t)&&decide (t<(s.length:Int))) (
 (f (jt ByteArray.empty s t)).bind fun(jQ:Bool)=>
 bif jQ then
 Option.map Sum.inr (Option.map Sum.inr (
 some t))
 else
 some (.inl (jv (t+1))))
 else
 some (.inr (.inl ()))) 0).bind fun j=>match j with
 |.inl _=>(
 some (-1))
 |.inr r=>some r
theorem zcv(s:(List js)){f f':(js→Option Bool)}(Gn:∀x,Lq (f x) (f' x)):Lq (Pm s f) (z24 s f'):=by
 unfold Pm z24;repeat' with_reducible first|exact vK _|exact Gn _|apply wS|apply vV|apply wV|apply ww|apply wT|apply wU|(refine wW (fun _ =>?_) (fun _ =>?_)<;>dsimp only)|(intro _;try dsimp only)|dsimp only
def Pn(s:(List js))(f:(js→Option Bool)):Option (Bool):=
 (Pm s f).bind fun(t:Int)=>
 some (decide (t≥0))
theorem zar(s:(List js)){f f':(js→Option Bool)}(Gn:∀x,Lq (f x) (f' x)):Lq (Pn s f) (Be s f'):=by
 unfold Pn Be;repeat' with_reducible first|exact vK _|exact Gn _|apply zcv|apply wS|apply vV|apply wV|apply ww|apply wT|apply wU|(refine wW (fun _ =>?_) (fun _ =>?_)<;>dsimp only)|(intro _;try dsimp only)|dsimp only
def Rw(request:(List js))(name:js)(K5:js):Option (Bool):=
 (nK request name).bind fun(t:Int)=>
 (bif decide (t<0)then some true else
 (nK request K5).bind fun(jQ:Int)=>
 some (decide (t>jQ))).bind fun(c:Bool)=>
 some c
theorem zps(request:(List js))(name:js)(K5:js):Lq (Rw request name K5) (iC request name K5):=by
 unfold Rw iC;repeat' with_reducible first|exact vK _|apply zbl|apply wS|apply vV|apply wV|apply ww|apply wT|apply wU|(refine wW (fun _ =>?_) (fun _ =>?_)<;>dsimp only)|(intro _;try dsimp only)|dsimp only
def Pj(below:js)(x:(List js))(Bf:js):Option (Bool):=
 (nP x below).bind fun(t:Bool)=>
 (bif t then
 (Rw x Bf below).bind fun(jQ:Bool)=>
 some jQ
 else some false).bind fun(c:Bool)=>
 some c
theorem zew(below:js)(x:(List js))(Bf:js):Lq (Pj below x Bf) (Bd below x Bf):=by
 unfold Pj Bd;repeat' with_reducible first|exact vK _|apply Ph|apply zps|apply wS|apply vV|apply wV|apply ww|apply wT|apply wU|(refine wW (fun _ =>?_) (fun _ =>?_)<;>dsimp only)|(intro _;try dsimp only)|dsimp only
def Pc(y:(List (List js)))(request:(List js)):Option ((List js)):=
 (XH (S:=(List js)×Int) (R:=(List js)) (fun s=>
 let out:(List js):=s.1
 let t:Int:=s.2
 bif decide (t<(y.length:Int))then
 chk (decide ((0:Int)≤t)&&decide (t<(y.length:Int))) (
 (XH (S:=(List js)×Int) (R:=(List js)) (fun Qq=>
 let wh:(List js):=Qq.1
 let jQ:Int:=Qq.2
 bif decide (jQ<(List.length (jt [] y t):Int))then
 chk (decide ((0:Int)≤jQ)&&decide (jQ<(List.length (jt [] y t):Int))) (
 let name:js:=jt ByteArray.empty (jt [] y t) jQ
 chk (decide ((0:Int)≤0)&&decide ((0:Int)≤jQ)&&decide (jQ≤(List.length (jt [] y t):Int))) (
 (Pn (List.drop (Int.toNat 0) (List.take (Int.toNat jQ) (jt [] y t))) (fun x=>Pj x request name)).bind fun(vb:Bool)=>
 (bif vb then
 (app wh [name]).bind fun(vw:List js)=>
 some vw
 else
 some wh).bind fun(Y4:(List js))=>
 some (.inl (Y4,jv (jQ+1)))))
 else
 some (.inr wh)) (out,0)).bind fun(VF:(List js))=>
 some (.inl (VF,jv (t+1))))
 else
 some (.inr out)) ([],0)).bind fun(VE:(List js))=>
 some VE
theorem zgh(y:(List (List js)))(request:(List js)):Lq (Pc y request) (Bc y request):=by
 unfold Pc Bc;repeat' with_reducible first|exact vK _|apply zar|apply zew|apply wS|apply vV|apply wV|apply ww|apply wT|apply wU|(refine wW (fun _ =>?_) (fun _ =>?_)<;>dsimp only)|(intro _;try dsimp only)|dsimp only
def RR(y:(List (List js)))(request:(List js)):Option ((List js)×Int):=
 (R1 y request).bind fun(r:(List (List js))×Int)=>
 bif (r.2 !=0)then
 some ([],r.2)
 else
 (Pc r.1 request).bind fun(t:(List js))=>
 some (t,0)
theorem zjp(y:(List (List js)))(request:(List js)):Lq (RR y request) (nD y request):=by
 unfold RR nD;repeat' with_reducible first|exact vK _|apply zhs|apply zgh|apply wS|apply vV|apply wV|apply ww|apply wT|apply wU|(refine wW (fun _ =>?_) (fun _ =>?_)<;>dsimp only)|(intro _;try dsimp only)|dsimp only
def tF:Option (Vv):=
 some (2,(100,(150,(1000,(2,(5000,(1,(0,10))))))))
theorem y2q:Lq (tF) (gN):=by
 unfold tF gN;repeat' with_reducible first|exact vK _|apply wS|apply vV|apply wV|apply ww|apply wT|apply wU|(refine wW (fun _ =>?_) (fun _ =>?_)<;>dsimp only)|(intro _;try dsimp only)|dsimp only
def tE:Option ((List Ql)):=
 let t:(List Ql):=[(1200,(3000,(5,1000))),(1100,(2500,(4,1000))),(1050,(3400,(6,2000)))]
 some t
theorem y2r:Lq (tE) (gM):=by
 unfold tE gM;repeat' with_reducible first|exact vK _|apply wS|apply vV|apply wV|apply ww|apply wT|apply wU|(refine wW (fun _ =>?_) (fun _ =>?_)<;>dsimp only)|(intro _;try dsimp only)|dsimp only
def Po(s:(List Ql))(f:(Ql→Option Bool)):Option (Int):=
 (XH (S:=Int) (R:=(Unit)⊕(Int)) (fun t=>
 bif decide (t<(s.length:Int))then
 chk (decide ((0:Int)≤t)&&decide (t<(s.length:Int))) (
 (f (jt (0,(0,(0,0))) s t)).bind fun(jQ:Bool)=>
 bif jQ then
 Option.map Sum.inr (Option.map Sum.inr (
 some t))
 else
 some (.inl (jv (t+1))))
 else
 some (.inr (.inl ()))) 0).bind fun j=>match j with
 |.inl _=>(
 some (-1))
 |.inr r=>some r
theorem z9q(s:(List Ql)){f f':(Ql→Option Bool)}(Gn:∀x,Lq (f x) (f' x)):Lq (Po s f) (nQ s f'):=by
 unfold Po nQ;repeat' with_reducible first|exact vK _|exact Gn _|apply wS|apply vV|apply wV|apply ww|apply wT|apply wU|(refine wW (fun _ =>?_) (fun _ =>?_)<;>dsimp only)|(intro _;try dsimp only)|dsimp only
def Pp(s:(List Ql))(f:(Ql→Option Bool)):Option (Bool):=
 (Po s f).bind fun(t:Int)=>
 some (decide (t≥0))
theorem z8g(s:(List Ql)){f f':(Ql→Option Bool)}(Gn:∀x,Lq (f x) (f' x)):Lq (Pp s f) (nR s f'):=by
 unfold Pp nR;repeat' with_reducible first|exact vK _|exact Gn _|apply z9q|apply wS|apply vV|apply wV|apply ww|apply wT|apply wU|(refine wW (fun _ =>?_) (fun _ =>?_)<;>dsimp only)|(intro _;try dsimp only)|dsimp only
def RC(x:Ql):Option (Bool):=
 (nC x.1).bind fun(t:Bool)=>
 (bif !t then some true else
 (nL x.2.1).bind fun(jQ:Bool)=>
 some (!jQ)).bind fun(c:Bool)=>
 (bif c then some true else
 (nB x.2.2.1).bind fun(vb:Bool)=>
 some (!vb)).bind fun(ZV:Bool)=>
 (bif ZV then some true else
 (WM x.2.2.2 1 10000).bind fun(vw:Bool)=>
 some (!vw)).bind fun(Xu:Bool)=>
 some Xu
theorem zoh(x:Ql):Lq (RC x) (nv x):=by
 unfold RC nv;repeat' with_reducible first|exact vK _|apply Eo|apply RP|apply Pa|apply RQ|apply wS|apply vV|apply wV|apply ww|apply wT|apply wU|(refine wW (fun _ =>?_) (fun _ =>?_)<;>dsimp only)|(intro _;try dsimp only)|dsimp only
def R4(s:(List Int))(f:(Int→Option Bool)):Option (Int):=
 (XH (S:=Int) (R:=(Unit)⊕(Int)) (fun t=>
 bif decide (t<(s.length:Int))then
 chk (decide ((0:Int)≤t)&&decide (t<(s.length:Int))) (
 (f (jt 0 s t)).bind fun(jQ:Bool)=>
 bif jQ then
 Option.map Sum.inr (Option.map Sum.inr (
 some t))
 else
 some (.inl (jv (t+1))))
 else
 some (.inr (.inl ()))) 0).bind fun j=>match j with
 |.inl _=>(
 some (-1))
 |.inr r=>some r
theorem zhp(s:(List Int)){f f':(Int→Option Bool)}(Gn:∀x,Lq (f x) (f' x)):Lq (R4 s f) (nJ s f'):=by
 unfold R4 nJ;repeat' with_reducible first|exact vK _|exact Gn _|apply wS|apply vV|apply wV|apply ww|apply wT|apply wU|(refine wW (fun _ =>?_) (fun _ =>?_)<;>dsimp only)|(intro _;try dsimp only)|dsimp only
def uR(s:(List Int))(f:(Int→Option Bool)):Option (Bool):=
 (R4 s f).bind fun(t:Int)=>
 some (decide (t≥0))
theorem z8t(s:(List Int)){f f':(Int→Option Bool)}(Gn:∀x,Lq (f x) (f' x)):Lq (uR s f) (iO s f'):=by
 unfold uR iO;repeat' with_reducible first|exact vK _|exact Gn _|apply zhp|apply wS|apply vV|apply wV|apply ww|apply wT|apply wU|(refine wW (fun _ =>?_) (fun _ =>?_)<;>dsimp only)|(intro _;try dsimp only)|dsimp only
def Pe(n:Int)(x:Int):Option (Bool):=
 (WM n 0 x).bind fun(t:Bool)=>
 some (!t)
theorem zff(n:Int)(x:Int):Lq (Pe n x) (nN n x):=by
 unfold Pe nN;repeat' with_reducible first|exact vK _|apply Eo|apply wS|apply vV|apply wV|apply ww|apply wT|apply wU|(refine wW (fun _ =>?_) (fun _ =>?_)<;>dsimp only)|(intro _;try dsimp only)|dsimp only
def cm(most:Int)(l:(List Int)):Option (Bool):=
 (uR l (fun x=>Pe x most)).bind fun(t:Bool)=>
 some (!t)
theorem zh3(most:Int)(l:(List Int)):Lq (cm most l) (Ba most l):=by
 unfold cm Ba;repeat' with_reducible first|exact vK _|apply z8t|apply zff|apply wS|apply vV|apply wV|apply ww|apply wT|apply wU|(refine wW (fun _ =>?_) (fun _ =>?_)<;>dsimp only)|(intro _;try dsimp only)|dsimp only
def RV(r:Vv):Option (Int):=
 (cm 7 [r.1]).bind fun(t:Bool)=>
 (bif t then
 (cm 300000 [r.2.1,r.2.2.1,r.2.2.2.1]).bind fun(jQ:Bool)=>
 some jQ
 else some false).bind fun(c:Bool)=>
 (bif c then
 (cm 99 [r.2.2.2.2.1]).bind fun(vb:Bool)=>
 some vb
 else some false).bind fun(ZV:Bool)=>
 (bif ZV then
 (cm 70000 [r.2.2.2.2.2.1]).bind fun(vw:Bool)=>
 some vw
 else some false).bind fun(Xu:Bool)=>
 (bif Xu then
 (cm 10000 [r.2.2.2.2.2.2.1,r.2.2.2.2.2.2.2.1,r.2.2.2.2.2.2.2.2]).bind fun(wq:Bool)=>
 some wq
 else some false).bind fun(F6:Bool)=>
 (Vu F6 2).bind fun(wD:Int)=>
 some wD
theorem zir(r:Vv):Lq (RV r) (nG r):=by
 unfold RV nG;repeat' with_reducible first|exact vK _|apply AK|apply zh3|apply wS|apply vV|apply wV|apply ww|apply wT|apply wU|(refine wW (fun _ =>?_) (fun _ =>?_)<;>dsimp only)|(intro _;try dsimp only)|dsimp only
def uq(r:Vv)(l:(List Ql)):Option (Qk×Int):=
 (Pp l (fun x=>RC x)).bind fun(t:Bool)=>
 (RV r).bind fun(jQ:Int)=>
 (Vu (decide ((l.length:Int)>0)) 10).bind fun(vb:Int)=>
 (Vu (decide ((l.length:Int)≤7)) 8).bind fun(vw:Int)=>
 (Vu (!t) 2).bind fun(wq:Int)=>
 (Cj [jQ,vb,vw,wq]).bind fun(wD:Int)=>
 some ((r,l),wD)
theorem zie(r:Vv)(l:(List Ql)):Lq (uq r l) (bP r l):=by
 unfold uq bP;repeat' with_reducible first|exact vK _|apply AK|apply bY|apply z8g|apply zoh|apply zir|apply wS|apply vV|apply wV|apply ww|apply wT|apply wU|(refine wW (fun _ =>?_) (fun _ =>?_)<;>dsimp only)|(intro _;try dsimp only)|dsimp only
def RF(count:Int):Option ((List Int)):=
 (XH (S:=(List Int)×Int) (R:=(List Int)) (fun s=>
 let out:(List Int):=s.1
 let t:Int:=s.2
 bif decide (t<count)then
 (app out [t]).bind fun(jQ:List Int)=>
 some (.inl (jQ,jv (t+1)))
 else
 some (.inr out)) ([],0)).bind fun(wh:(List Int))=>
 some wh
theorem zmx(count:Int):Lq (RF count) (iG count):=by
 unfold RF iG;repeat' with_reducible first|exact vK _|apply wS|apply vV|apply wV|apply ww|apply wT|apply wU|(refine wW (fun _ =>?_) (fun _ =>?_)<;>dsimp only)|(intro _;try dsimp only)|dsimp only
def bS(n:Int):Option (Int):=
 let t:Int:=Kn n (jv (0-n))
 some t
theorem zid(n:Int):Lq (bS n) (C3 n):=by
 unfold bS C3;repeat' with_reducible first|exact vK _|apply wS|apply vV|apply wV|apply ww|apply wT|apply wU|(refine wW (fun _ =>?_) (fun _ =>?_)<;>dsimp only)|(intro _;try dsimp only)|dsimp only
def Pf(r:Qk)(jE:(List Int))(p:Int):Option ((Nat→Bool)):=
 chk (decide ((0:Int)≤0)&&decide ((0:Int)≤(jv (p+1)))&&decide ((jv (p+1))≤(jE.length:Int))) (
 (XH (S:=Int×Int) (R:=Int) (fun s=>
 let VJ:Int:=s.1
 let t:Int:=s.2
 bif decide (t<(List.length (List.drop (Int.toNat 0) (List.take (Int.toNat (jv (p+1))) jE)):Int))then
 chk (decide ((0:Int)≤t)&&decide (t<(List.length (List.drop (Int.toNat 0) (List.take (Int.toNat (jv (p+1))) jE)):Int))) (
 let i:Int:=jt 0 (List.drop (Int.toNat 0) (List.take (Int.toNat (jv (p+1))) jE)) t
 chk (decide ((0:Int)≤i)&&decide (i<(List.length r.2:Int))) (
 let VI:Int:=jv (VJ+((((jt (0,(0,(0,0))) r.2 i).2).2).2))
 some (.inl (VI,jv (t+1)))))
 else
 some (.inr VJ)) (0,0)).bind fun(VH:Int)=>
 chk (decide ((0:Int)≤0)&&decide ((0:Int)<5)) (
 let out:(Nat→Bool):=ZY (fun _=>false) 0 (decide (VH>r.1.2.2.2.2.2.1))
 bif (p==0)then
 some out
 else
 chk (decide ((0:Int)≤p)&&decide (p<(jE.length:Int))) (
 chk (decide ((0:Int)≤(jt 0 jE p))&&decide ((jt 0 jE p)<(List.length r.2:Int))) (
 chk (decide ((0:Int)≤(jv (p-1)))&&decide ((jv (p-1))<(jE.length:Int))) (
 chk (decide ((0:Int)≤(jt 0 jE (jv (p-1))))&&decide ((jt 0 jE (jv (p-1)))<(List.length r.2:Int))) (
 let x:Ql:=jt (0,(0,(0,0))) r.2 (jt 0 jE p)
 let y:Ql:=jt (0,(0,(0,0))) r.2 (jt 0 jE (jv (p-1)))
 (bif decide (p<r.1.1)then
 chk (decide ((0:Int)≤1)&&decide ((1:Int)<5)) (
 let wh:(Nat→Bool):=ZY out 1 (decide ((jv (x.1-y.1))<0))
 some wh)
 else
 chk (decide ((0:Int)≤1)&&decide ((1:Int)<5)) (
 let Y4:(Nat→Bool):=ZY out 1 (decide ((jv (x.1-y.1))>0))
 some Y4)).bind fun(VF:(Nat→Bool))=>
 (WM (jv (x.1-y.1)) (jv (0-r.1.2.2.1)) r.1.2.1).bind fun(jQ:Bool)=>
 chk (decide ((0:Int)≤2)&&decide ((2:Int)<5)) (
 let VE:(Nat→Bool):=ZY VF 2 (!jQ)
 (bS (jv (x.2.1-y.2.1))).bind fun(vb:Int)=>
 chk (decide ((0:Int)≤3)&&decide ((3:Int)<5)) (
 let Dd:(Nat→Bool):=ZY VE 3 (decide (vb>r.1.2.2.2.1))
 (bS (jv (x.2.2.1-y.2.2.1))).bind fun(vw:Int)=>
 chk (decide ((0:Int)≤4)&&decide ((4:Int)<5)) (
 let Dc:(Nat→Bool):=ZY Dd 4 (decide (vw>r.1.2.2.2.2.1))
 some Dc)))))))))
theorem zfe(r:Qk)(jE:(List Int))(p:Int):Lq (Pf r jE p) (iN r jE p):=by
 unfold Pf iN;repeat' with_reducible first|exact vK _|apply Eo|apply zid|apply wS|apply vV|apply wV|apply ww|apply wT|apply wU|(refine wW (fun _ =>?_) (fun _ =>?_)<;>dsimp only)|(intro _;try dsimp only)|dsimp only
def RM(s:(List Bool))(v:Bool):Option (Int):=
 (XH (S:=Int) (R:=(Unit)⊕(Int)) (fun t=>
 bif decide (t<(s.length:Int))then
 chk (decide ((0:Int)≤t)&&decide (t<(s.length:Int))) (
 bif (v==(jt false s t))then
 Option.map Sum.inr (Option.map Sum.inr (
 some t))
 else
 some (.inl (jv (t+1))))
 else
 some (.inr (.inl ()))) 0).bind fun j=>match j with
 |.inl _=>(
 some (-1))
 |.inr r=>some r
theorem zll(s:(List Bool))(v:Bool):Lq (RM s v) (nA s v):=by
 unfold RM nA;repeat' with_reducible first|exact vK _|apply wS|apply vV|apply wV|apply ww|apply wT|apply wU|(refine wW (fun _ =>?_) (fun _ =>?_)<;>dsimp only)|(intro _;try dsimp only)|dsimp only
def R3(s:(List Bool))(v:Bool):Option (Bool):=
 (RM s v).bind fun(t:Int)=>
 some (decide (t≥0))
theorem zhq(s:(List Bool))(v:Bool):Lq (R3 s v) (iM s v):=by
 unfold R3 iM;repeat' with_reducible first|exact vK _|apply zll|apply wS|apply vV|apply wV|apply ww|apply wT|apply wU|(refine wW (fun _ =>?_) (fun _ =>?_)<;>dsimp only)|(intro _;try dsimp only)|dsimp only
def UF(r:Qk)(begun:List Int):Option Bool:=
 bif decide ((begun.length:Int)>0)then(Pf r begun (jv ((begun.length:Int)-1))).bind fun v=>R3 ((List.range 5).map v) true else some false
theorem IJ(r:Qk)(begun:List Int):Lq (UF r begun) (mo r begun):=ww (vV (zfe _ _ _) fun _=>zhq _ _) (vK _)
def RG(s:(List Int))(v:Int):Option (Int):=
 (XH (S:=Int) (R:=(Unit)⊕(Int)) (fun t=>
 bif decide (t<(s.length:Int))then
 chk (decide ((0:Int)≤t)&&decide (t<(s.length:Int))) (
 bif (v==(jt 0 s t))then
 Option.map Sum.inr (Option.map Sum.inr (
 some t))
 else
 some (.inl (jv (t+1))))
 else
 some (.inr (.inl ()))) 0).bind fun j=>match j with
 |.inl _=>(
 some (-1))
 |.inr r=>some r
theorem zmv(s:(List Int))(v:Int):Lq (RG s v) (vW s v):=by
 unfold RG vW;repeat' with_reducible first|exact vK _|apply wS|apply vV|apply wV|apply ww|apply wT|apply wU|(refine wW (fun _ =>?_) (fun _ =>?_)<;>dsimp only)|(intro _;try dsimp only)|dsimp only
def uJ(s:(List Int))(v:Int):Option (Bool):=
 (RG s v).bind fun(t:Int)=>
 some (decide (t≥0))
theorem zbm(s:(List Int))(v:Int):Lq (uJ s v) (jS s v):=by
 unfold uJ jS;repeat' with_reducible first|exact vK _|apply zmv|apply wS|apply vV|apply wV|apply ww|apply wT|apply wU|(refine wW (fun _ =>?_) (fun _ =>?_)<;>dsimp only)|(intro _;try dsimp only)|dsimp only
theorem y9h{α β:Type}{f g:α→Option (List β)}(h:∀a,Lq (f a) (g a)):∀l,Lq (JX f l) (JX g l)
 |[]=>vK _
 |a::l=>vV (h a) fun _=>vV (y9h h l) fun _=>vK _
def lS(r:Qk)(wv:List Int):Nat→List Int→Option (List (List Int))
 |0,begun=>(UF r begun).bind fun fS=>bif fS then some []else bif ((begun.length:Int)==(wv.length:Int))then some [begun]else none
 |m+1,begun=>(UF r begun).bind fun fS=>bif fS then some []else bif ((begun.length:Int)==(wv.length:Int))then some [begun]else JX (fun i=>(uJ begun i).bind fun t=>bif t then some []else lS r wv m (begun++[i])) wv
theorem y4t(r:Qk)(wv:List Int):∀(m:Nat) (begun:List Int),Lq (lS r wv m begun) (CC r wv m begun)
 |0,begun=>by
  unfold lS CC;exact vV (IJ _ _) fun _=>ww (vK _) (ww (vK _) (vK _))
 |m+1,begun=>by
  unfold lS CC;exact vV (IJ _ _) fun _=>ww (vK _) (ww (vK _) (y9h (fun i=>vV (zbm _ _) fun _=>ww (vK _) (y4t r wv m _)) _))
def z8z(r:Qk)(wv:List Int):Option (List (List Int)):=bif decide (wv.length≤1000)then lS r wv (wv.length+1) []else none
theorem zex(r:Qk)(wv:List Int):Lq (z8z r wv) (iQ r wv):=ww (y4t _ _ _ _) (vK _)
def uH(r:Qk)(a:Int)(b:Int):Option (Int):=
 chk (decide ((0:Int)≤a)&&decide (a<(List.length r.2:Int))) (
 chk (decide ((0:Int)≤b)&&decide (b<(List.length r.2:Int))) (
 let x:Ql:=jt (0,(0,(0,0))) r.2 a
 let y:Ql:=jt (0,(0,(0,0))) r.2 b
 (bS (jv (x.1-y.1))).bind fun(t:Int)=>
 (bS (jv (x.2.1-y.2.1))).bind fun(jQ:Int)=>
 (bS (jv (x.2.2.1-y.2.2.1))).bind fun(vb:Int)=>
 let vw:Int:=jv ((jv ((jv (r.1.2.2.2.2.2.2.1*t))+(jv (r.1.2.2.2.2.2.2.2.1*jQ))))+(jv (r.1.2.2.2.2.2.2.2.2*vb)))
 some vw))
theorem zbn(r:Qk)(a:Int)(b:Int):Lq (uH r a b) (z40 r a b):=by
 unfold uH z40;repeat' with_reducible first|exact vK _|apply zid|apply wS|apply vV|apply wV|apply ww|apply wT|apply wU|(refine wW (fun _ =>?_) (fun _ =>?_)<;>dsimp only)|(intro _;try dsimp only)|dsimp only
def R2(r:Qk)(jE:(List Int)):Option (Int):=
 (XH (S:=Int×Int) (R:=Int) (fun s=>
 let Jh:Int:=s.1
 let p:Int:=s.2
 bif decide (p<(jE.length:Int))then
 chk (decide ((0:Int)≤(jv (p-1)))&&decide ((jv (p-1))<(jE.length:Int))) (
 chk (decide ((0:Int)≤p)&&decide (p<(jE.length:Int))) (
 (uH r (jt 0 jE (jv (p-1))) (jt 0 jE p)).bind fun(t:Int)=>
 some (.inl (jv (Jh+t),jv (p+1)))))
 else
 some (.inr Jh)) (0,1)).bind fun(ZN:Int)=>
 some ZN
theorem zhr(r:Qk)(jE:(List Int)):Lq (R2 r jE) (C8 r jE):=by
 unfold R2 C8;repeat' with_reducible first|exact vK _|apply zbn|apply wS|apply vV|apply wV|apply ww|apply wT|apply wU|(refine wW (fun _ =>?_) (fun _ =>?_)<;>dsimp only)|(intro _;try dsimp only)|dsimp only
def yb5(x:Qk)(s:List Int)(b:Option (List Int×Int)):Option (Option (List Int×Int)):=
 (R2 x s).bind fun n=>match b with
  |none=>some (some (s,n))
  |some c=>chk (!c.1.isEmpty) (bif decide (n<c.2)then some (some (s,n))else some (some c))
theorem yci(x:Qk)(s:List Int)(b:Option (List Int×Int)):Lq (yb5 x s b) (iV x s b):=vV (zhr _ _) fun _=>vK _
def PL(x:Qk):List (List Int)→Option (List Int×Int)→Option (Option (List Int×Int))
 |[],b=>some b
 |s::cs,b=>(yb5 x s b).bind fun d=>PL x cs d
theorem y4u(x:Qk):∀(cs:List (List Int)) (b:Option (List Int×Int)),Lq (PL x cs b) (iU x cs b)
 |[],_=>vK _
 |s::cs,b=>vV (yci _ _ _) fun d=>y4u x cs d
def zfa(r:Vv)(l:List Ql):Option (List Int×Int×Int):=
 (uq r l).bind fun x=>bif x.2 !=0 then some ([],0,x.2)else
 (RF (l.length:Int)).bind fun ns=>(z8z x.1 ns).bind fun cs=>(PL x.1 cs none).bind fun b=>match b with
 |none=>some ([],0,12)
 |some c=>chk (!c.1.isEmpty) (some (c.1,c.2,0))
theorem zln(r:Vv)(l:List Ql):Lq (zfa r l) (nz r l):=
 vV (zie _ _) fun _=>ww (vK _) (vV (zmx _) fun _=>vV (zex _ _) fun _=>vV (y4u _ _ _) fun _=>vK _)
def RS(n:Int):Option (Bool):=
 (WM n (-10000) 10000).bind fun(t:Bool)=>
 some (!t)
theorem zjo(n:Int):Lq (RS n) (nE n):=by
 unfold RS nE;repeat' with_reducible first|exact vK _|apply Eo|apply wS|apply vV|apply wV|apply ww|apply wT|apply wU|(refine wW (fun _ =>?_) (fun _ =>?_)<;>dsimp only)|(intro _;try dsimp only)|dsimp only
def RO(x:List Int):Option (List Int):=bif decide (x.length≤1000000)then some x else none
theorem zlj(x:List Int):Lq (RO x) (iJ x):=by
 unfold RO iJ;repeat' with_reducible first|exact vK _|apply wS|apply vV|apply wV|apply ww|apply wT|apply wU|(refine wW (fun _ =>?_) (fun _ =>?_)<;>dsimp only)|(intro _;try dsimp only)|dsimp only
theorem zuo:bZ [0,20,0]=some [0,0,20]:=by
 unfold bZ;have h:([0,20,0]:List Int).mergeSort (fun a b=>decide (a≤b))=[0,0,20]:=by
  simp[List.mergeSort,List.MergeSort.Internal.splitInTwo,List.merge]
 rw[h];rfl
def RN(x:List Int):Option (List Int):=if x=[0,20,0]then some [0,0,20]else none
theorem zlk(x:List Int):Lq (RN x) (bZ x):=by
 intro v hv;unfold RN at hv;split at hv
 ·rename_i h;subst h;cases hv;exact zuo
 ·cases hv
def RY(r:Qk)(jX:(List Int)):Option (Int):=
 (XH (S:=(List Int)×Int) (R:=Int) (fun s=>
 let Wh:(List Int):=s.1
 let Jh:Int:=s.2
 bif decide ((Wh.length:Int)<(List.length r.2:Int))then
 (XH (S:=Int×Int×Int) (R:=Int×Int) (fun Qq=>
 let next:Int:=Qq.1
 let Jo:Int:=Qq.2.1
 let t:Int:=Qq.2.2
 bif decide (t<(Wh.length:Int))then
 chk (decide ((0:Int)≤t)&&decide (t<(Wh.length:Int))) (
 (XH (S:=Int×Int×Int) (R:=Int×Int) (fun Xg=>
 let YE:Int:=Xg.1
 let Zo:Int:=Xg.2.1
 let jQ:Int:=Xg.2.2
 bif decide (jQ<(List.length r.2:Int))then
 (uH r (jt 0 Wh t) jQ).bind fun(vb:Int)=>
 chk (decide ((0:Int)≤(jt 0 Wh t))&&decide ((jt 0 Wh t)<(jX.length:Int))) (
 chk (decide ((0:Int)≤jQ)&&decide (jQ<(jX.length:Int))) (
 let n:Int:=jv ((jv (vb-(jt 0 jX (jt 0 Wh t))))-(jt 0 jX jQ))
 (uJ Wh jQ).bind fun(vw:Bool)=>
 (bif ((!vw)&&((decide (YE<0))||(decide (n<Zo))))then
 some (jQ,n)
 else
 some (YE,Zo)).bind fun(j:Int×Int)=>
 let H0:Int:=j.1
 let Wf:Int:=j.2
 some (.inl (H0,Wf,jv (jQ+1)))))
 else
 some (.inr (YE,Zo))) (next,Jo,0)).bind fun(b:Int×Int)=>
 let HZ:Int:=b.1
 let We:Int:=b.2
 some (.inl (HZ,We,jv (t+1))))
 else
 some (.inr (next,Jo))) ((-1),0,0)).bind fun(DZ:Int×Int)=>
 let HY:Int:=DZ.1
 let Wd:Int:=DZ.2
 (app Wh [HY]).bind fun(wq:List Int)=>
 let ZN:Int:=jv (Jh+Wd)
 some (.inl (wq,ZN))
 else
 some (.inr Jh)) ([0],0)).bind fun(VB:Int)=>
 some VB
theorem zin(r:Qk)(jX:(List Int)):Lq (RY r jX) (nH r jX):=by
 unfold RY nH;repeat' with_reducible first|exact vK _|apply zbm|apply zbn|apply wS|apply vV|apply wV|apply ww|apply wT|apply wU|(refine wW (fun _ =>?_) (fun _ =>?_)<;>dsimp only)|(intro _;try dsimp only)|dsimp only
def RE(r:Vv)(l:(List Ql))(jX:(List Int)):Option (Int×Int):=
 (uq r l).bind fun(K9:Qk×Int)=>
 (uR jX (fun x=>RS x)).bind fun(t:Bool)=>
 (Vu ((jX.length:Int)==(l.length:Int)) 10).bind fun(jQ:Int)=>
 (Vu (!t) 2).bind fun(vb:Int)=>
 (Cj [K9.2,jQ,vb]).bind fun(vw:Int)=>
 bif (vw !=0)then
 some (0,vw)
 else
 bif ((l.length:Int)==1)then
 some (0,0)
 else
 (XH (S:=Int×Int) (R:=Int) (fun s=>
 let Jh:Int:=s.1
 let wq:Int:=s.2
 bif decide (wq<(jX.length:Int))then
 chk (decide ((0:Int)≤wq)&&decide (wq<(jX.length:Int))) (
 let ZN:Int:=jv (Jh+(jv (2*(jt 0 jX wq))))
 some (.inl (ZN,jv (wq+1))))
 else
 some (.inr Jh)) (0,0)).bind fun(VB:Int)=>
 (RO jX).bind fun(wD:(List Int))=>
 (RN wD).bind fun(Qs:(List Int))=>
 chk (decide ((0:Int)≤(jv ((Qs.length:Int)-2)))&&decide (((jv ((Qs.length:Int)-2)):Int)≤(Qs.length:Int))&&decide ((Qs.length:Int)≤(Qs.length:Int))) (
 let top:(List Int):=List.drop (Int.toNat (jv ((Qs.length:Int)-2))) (List.take (Int.toNat (Qs.length:Int)) Qs)
 (RY K9.1 jX).bind fun(Vz:Int)=>
 chk (decide ((0:Int)≤0)&&decide (0<(top.length:Int))) (
 chk (decide ((0:Int)≤1)&&decide (1<(top.length:Int))) (
 let HU:Int:=jv ((jv ((jv (Vz+VB))-(jt 0 top 0)))-(jt 0 top 1))
 some (HU,0))))
theorem zmy(r:Vv)(l:(List Ql))(jX:(List Int)):Lq (RE r l jX) (nw r l jX):=by
 unfold RE nw;repeat' with_reducible first|exact vK _|apply AK|apply bY|apply z8t|apply zie|apply zjo|apply zlj|apply zlk|apply zin|apply wS|apply vV|apply wV|apply ww|apply wT|apply wU|(refine wW (fun _ =>?_) (fun _ =>?_)<;>dsimp only)|(intro _;try dsimp only)|dsimp only
def UE(a:(List js))(b:(List js)):Option (Bool):=
 bif ((a.length:Int)!=(b.length:Int))then
 some false
 else
 (XH (S:=Int) (R:=(Unit)⊕(Bool)) (fun i=>
 bif decide (i<(a.length:Int))then
 chk (decide ((0:Int)≤i)&&decide (i<(a.length:Int))) (
 chk (decide ((0:Int)≤i)&&decide (i<(b.length:Int))) (
 bif !cC (jt ByteArray.empty a i) (jt ByteArray.empty b i)then
 Option.map Sum.inr (Option.map Sum.inr (
 some false))
 else
 some (.inl (jv (i+1)))))
 else
 some (.inr (.inl ()))) 0).bind fun j=>match j with
 |.inl _=>(
 some true)
 |.inr r=>some r
theorem y2s(a:(List js))(b:(List js)):Lq (UE a b) (CP a b):=by
 unfold UE CP;try simp only[mn]
 repeat' with_reducible first|exact vK _|apply wS|apply vV|apply wV|apply ww|apply wT|apply wU|(refine wW (fun _ =>?_) (fun _ =>?_)<;>dsimp only)|(intro _;try dsimp only)|dsimp only
def T8(a:(List Int))(b:(List Int)):Option (Bool):=
 bif ((a.length:Int)!=(b.length:Int))then
 some false
 else
 (XH (S:=Int) (R:=(Unit)⊕(Bool)) (fun i=>
 bif decide (i<(a.length:Int))then
 chk (decide ((0:Int)≤i)&&decide (i<(a.length:Int))) (
 chk (decide ((0:Int)≤i)&&decide (i<(b.length:Int))) (
 bif ((jt 0 a i)!=(jt 0 b i))then
 Option.map Sum.inr (Option.map Sum.inr (
 some false))
 else
 some (.inl (jv (i+1)))))
 else
 some (.inr (.inl ()))) 0).bind fun j=>match j with
 |.inl _=>(
 some true)
 |.inr r=>some r
theorem y6r(a:(List Int))(b:(List Int)):Lq (T8 a b) (lU a b):=by
 unfold T8 lU;repeat' with_reducible first|exact vK _|apply wS|apply vV|apply wV|apply ww|apply wT|apply wU|(refine wW (fun _ =>?_) (fun _ =>?_)<;>dsimp only)|(intro _;try dsimp only)|dsimp only
def Lz:Option (Bool):=
 (RX (bytes [97,45,49,32,119,105,100,116,104,32,49,50,48,48,32,109,109,32,116,104,105,99,107,110,101,115,115,32,51,32,109,109,32,103,114,97,100,101,32,53,32,116,111,108,101,114,97,110,99,101,32,53,48,32,117,109,32,100,117,101,32,49,50])).bind fun(r:vn×Int×Int)=>
 (RW ((bytes [115]),(5,(200000,(1250,8000)))) r.1).bind fun(K9:Z0×Int)=>
 (T9).bind fun(t:(List (List js)))=>
 (RR t [(bytes [97]),(bytes [99])]).bind fun(AT:(List js)×Int)=>
 (tF).bind fun(jQ:Vv)=>
 (tE).bind fun(vb:(List Ql))=>
 (zfa jQ vb).bind fun(Cn:(List Int)×Int×Int)=>
 (tF).bind fun(vw:Vv)=>
 (tE).bind fun(wq:(List Ql))=>
 (RE vw wq [0,20,0]).bind fun(AS:Int×Int)=>
 (bif ((r.2.2==0)&&(K9.2==0))then
 some (Ty.eqb wP K9.1 (546448,564972))
 else some false).bind fun(c:Bool)=>
 (bif (c&&(AT.2==0))then
 (UE AT.1 [(bytes [98]),(bytes [99])]).bind fun(wD:Bool)=>
 some wD
 else some false).bind fun(ZV:Bool)=>
 (bif (ZV&&(Cn.2.2==0))then
 (T8 Cn.1 [1,0,2]).bind fun(Qs:Bool)=>
 some Qs
 else some false).bind fun(Xu:Bool)=>
 let Vz:Bool:=(((Xu&&(Cn.2.1==270))&&(AS.2==0))&&(AS.1==160))
 some Vz
theorem y2p:Lq (Lz) (bB):=by
 unfold Lz bB;repeat' with_reducible first|exact vK _|apply zio|apply ziq|apply y6q|apply zjp|apply y2q|apply y2r|apply zln|apply zmy|apply y2s|apply y6r|apply wS|apply vV|apply wV|apply ww|apply wT|apply wU|(refine wW (fun _ =>?_) (fun _ =>?_)<;>dsimp only)|(intro _;try dsimp only)|dsimp only
theorem y7e:bB=some true:=y2p _ (by kernel_rfl)
end Go.Lift
end
