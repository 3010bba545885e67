/-
  The functions of the laws of plans, their code, their contracts.
-/
import Derived.Test.YtggnjngdmadbaaaGreatDoorYaF
noncomputable section
set_option linter.all false
namespace Go.Lift
open Go
def ii(y:(List (List js))):Option (Int):=
 (nh y).bind fun(r:Int×Int)=>
 some r.2
def mD(y:(List (List js))):Option (Int):=
 (vz (S:=Int×Int) (R:=Int) (fun s=>
 let n:Int:=s.1
 let i:Int:=s.2
 bif decide (i<(y.length:Int))then
 chk (decide ((0:Int)≤i)&&decide (i<(y.length:Int))) (
 let SE:Int:=jv (n+(List.length (jt [] y i):Int))
 some (.inl (SE,jv (i+1))))
 else
 some (.inr n)) (0,0)).bind fun(n_2:Int)=>
 some n_2
abbrev wC:=List (List js)×List js×List (Int×Int)×Int
def gz(n:wC)(m:Int×Int):Bool:=
 decide (0≤m.1)&&decide (m.1<(n.1.length:Int))&&decide (0<(jt [] n.1 m.1).length)&&(bif m.2 == -1 then decide (0<n.2.1.length)else decide (0≤m.2)&&decide (m.2<(n.1.length:Int))&&(m.2 !=m.1))&&decide (n.1.length≤1000)&&n.1.all (fun p=>decide (p.length≤999))&&decide (n.2.2.1.length≤1000000)
def Ha(n:wC)(m:Int×Int):Option wC:=
 bif gz n m then(V7 n.1 m).bind fun y=>some (y,bif m.2 == -1 then n.2.1.drop 1 else n.2.1,n.2.2.1++[m],bif m.2 == -1 then n.2.2.2 else jv (n.2.2.2+1))else none
def KD(y:List (List js))(x:js):Option Nat:=y.findIdx? fun p=>bif decide (0<p.length)then jO (p.getD (p.length-1) ByteArray.empty) x else false
def J4:Nat→wC→Option wC
 |0,n=>some n
 |k+1,n=>match n.2.1 with
 |[]=>some n
 |x::_=>match KD n.1 x with
 |none=>some n
 |some i=>(Ha n ((i:Int),-1)).bind fun t=>J4 k t
def iL(n:wC):Option wC:=bif Vo n.1&&decide (n.2.1.length≤1000)then J4 n.2.1.length n else none
def strings_Join(l:List js)(s:js):Option js:=
 bif decide (l.length≤4294967296)&&decide ((Lib.join (l.map (·.data.toList)) s.data.toList).length≤4294967296)then some ⟨(Lib.join (l.map (·.data.toList)) s.data.toList).toArray⟩else none
def bW(n:EW):Option (js):=
 (vz (S:=(List js)×Int) (R:=(List js)) (fun s=>
 let w:(List js):=s.1
 let t:Int:=s.2
 bif decide (t<(List.length n.1:Int))then
 chk (decide ((0:Int)≤t)&&decide (t<(List.length n.1:Int))) (
 (strings_Join (jt [] n.1 t) (bytes [32])).bind fun(jQ:js)=>
 (app w [jQ]).bind fun(vb:List js)=>
 some (.inl (vb,jv (t+1))))
 else
 some (.inr w)) ([],0)).bind fun(w_1:(List js))=>
 (strings_Join w_1 (bytes [47])).bind fun(vw:js)=>
 some vw
def D7(k:Nat):List (Int×Int):=(List.range k).flatMap fun(a:Nat)=>(List.range k).map fun(b:Nat)=>((a:Int),(b:Int))
def HM(y:List (List js)):List (Int×Int)→Option (List (Int×Int))
 |[]=>some []
 |m::l=>(Bb y m).bind fun e=>(HM y l).bind fun r=>some (bif e==0 then m::r else r)
def gy(y:List (List js)):Option (List (Int×Int)):=bif decide (y.length≤1000)then HM y (D7 y.length)else none
abbrev jY:=List (Int×wC)
def XW(ps:jY)(n:wC):Option jY:=
 (iL n).bind fun t=>(Bc t.1 t.2.1).bind fun b=>bif decide (0≤t.2.2.2)&&decide (t.2.2.2≤4294967296)&&decide (ps.length≤100000000)&&decide (b.length≤1000000)then some (ps++[(t.2.2.2+(b.length:Int),t)])else none
def HL(n:wC):List (Int×Int)→jY→Option jY
 |[],ps=>some ps
 |m::l,ps=>(Ha n m).bind fun t=>(XW ps t).bind fun qs=>HL n l qs
def QX(ps:jY)(k:Int):List wC:=(ps.filter fun e=>e.1==k).map fun e=>e.2
def Xx(ps:jY):Int:=ps.foldl (fun m e=>max m e.1) 0
inductive Fu (k:Int):Nat→jY→List js→Nat→(jY×List js)⊕List (Int×Int)→Prop where
 |stop {N:Nat} {ps:jY} {done:List js} {i:Nat}:(QX ps k).length≤i→Fu k N ps done i (.inl (ps,done))
 |goal {N:Nat} {ps:jY} {done:List js} {i:Nat} {n:wC}:(QX ps k)[i]?=some n→n.2.1=[]→Fu k N ps done i (.inr n.2.2.1)
 |skip {N:Nat} {ps:jY} {done:List js} {i:Nat} {n:wC} {s:js} {r:(jY×List js)⊕List (Int×Int)}:(QX ps k)[i]?=some n→n.2.1≠[]→bW n=some s→s∈done→Fu k N ps done (i+1) r→Fu k (N+1) ps done i r
 |turn {N:Nat} {ps qs:jY} {done:List js} {i:Nat} {n:wC} {s:js} {ms:List (Int×Int)} {r:(jY×List js)⊕List (Int×Int)}:(QX ps k)[i]?=some n→n.2.1≠[]→bW n=some s→s∉done→done.length≤100000000→gy n.1=some ms→HL n ms ps=some qs→Fu k N qs (s::done) (i+1) r→Fu k (N+1) ps done i r
inductive Ab:Nat→jY→List js→Nat→List (Int×Int)×Bool→Prop where
 |stop {N:Nat} {ps:jY} {done:List js} {k:Nat}:Xx ps<(k:Int)→Ab N ps done k ([],false)
 |goal {N K:Nat} {ps:jY} {done:List js} {k:Nat} {l:List (Int×Int)}:(k:Int)≤Xx ps→Fu (k:Int) K ps done 0 (.inr l)→Ab N ps done k (l,true)
 |next {N K:Nat} {ps qs:jY} {done done':List js} {k:Nat} {r:List (Int×Int)×Bool}:(k:Int)≤Xx ps→Fu (k:Int) K ps done 0 (.inl (qs,done'))→Ab N qs done' (k+1) r→Ab (N+1) ps done k r
def sH(y:List (List js))(request:List js)(r:List (Int×Int)×Bool):Prop:=∃ps N,XW [] (y,request,[],0)=some ps∧Ab N ps [] 0 r
open Classical in
def iB(y:List (List js))(request:List js):Option (List (Int×Int)×Bool):=if h:∃r,sH y request r then some (Classical.choose h)else none
def Ck(y:(List (List js)))(request:(List js)):Option ((List Z0)×Int):=
 (C7 y request).bind fun(r:(List (List js))×Int)=>
 bif (r.2 !=0)then
 some ([],r.2)
 else
 (iB r.1 request).bind fun(K9:(List Z0)×Bool)=>
 (Z1 K9.2 12).bind fun(t:Int)=>
 some (K9.1,t)
def iI(y:(List (List js)))(pile:Int):Option (js):=
 chk (decide ((0:Int)≤pile)&&decide (pile<(y.length:Int))) (
 chk (decide ((0:Int)≤pile)&&decide (pile<(y.length:Int))) (
 chk (decide ((0:Int)≤(jv ((List.length (jt [] y pile):Int)-1)))&&decide ((jv ((List.length (jt [] y pile):Int)-1))<(List.length (jt [] y pile):Int))) (
 let t:js:=jt ByteArray.empty (jt [] y pile) (jv ((List.length (jt [] y pile):Int)-1))
 some t)))
def Cm(y:(List (List js)))(request:(List js))(jV:(List Z0)):Option (Int×Int):=
 (C7 y request).bind fun(r:(List (List js))×Int)=>
 (Z1 (decide ((jV.length:Int)≤40)) 8).bind fun(t:Int)=>
 (Jb [r.2,t]).bind fun(jQ:Int)=>
 bif (jQ !=0)then
 some (0,jQ)
 else
 (vz (S:=Int×EW) (R:=(EW)⊕(Int×Int)) (fun s=>
 let vb:Int:=s.1
 let n:EW:=s.2
 bif decide (vb<(jV.length:Int))then
 chk (decide ((0:Int)≤vb)&&decide (vb<(jV.length:Int))) (
 let m:Z0:=jt (0,0) jV vb
 (Bb n.1 m).bind fun(vw:Int)=>
 bif (vw !=0)then
 Option.map Sum.inr (Option.map Sum.inr (
 some (vb,vw)))
 else
 (bif (m.2==(-1))then
 (bif ((List.length n.2.1:Int)==0)then some true else
 (iI n.1 m.1).bind fun(wq:js)=>
 chk (decide ((0:Int)≤0)&&decide (0<(List.length n.2.1:Int))) (
 some (!jO wq (jt ByteArray.empty n.2.1 0)))).bind fun(c:Bool)=>
 some c
 else some false).bind fun(ZV:Bool)=>
 bif ZV then
 Option.map Sum.inr (Option.map Sum.inr (
 some (vb,24)))
 else
 (Ha n m).bind fun(wD:EW)=>
 some (.inl (jv (vb+1),wD)))
 else
 some (.inr (.inl n))) (0,(r.1,(request,([],0))))).bind fun j=>match j with
 |.inl SE=>(
 bif decide ((List.length SE.2.1:Int)>0)then
 let Qs:Int:=(jV.length:Int)
 some (Qs,14)
 else
 some (SE.2.2.2,0))
 |.inr r=>some r
def io(l:(List Z0)):Option ((List Z0)):=
 (app [] l).bind fun(t:List Z0)=>
 some t
open Go.Proofs
def zpa:Ann :=.nil
def Iz:Ann:=(.seq .nil (.seq .nil (.seq (.seq .nil (.blk (.loopB ⟨[⟨false,3,0,(.int .i64),[],false⟩,⟨false,4,0,(.int .i64),[],false⟩],[]⟩ ⟨[⟨false,3,0,(.int .i64),[],false⟩],[]⟩ 0 .nil))) .nil)))
def zdt:Ann:=(.seq .nil (.seq .nil (.seq (.seq .nil (.blk (.loopB ⟨[⟨false,3,0,(.slice .str),[([],some 101000300)],false⟩,⟨false,9,0,(.int .i64),[],false⟩],[1]⟩ ⟨[⟨false,3,0,(.slice .str),[([],some 201000300)],false⟩],[1]⟩ 0 .nil))) .nil)))
def zf6:Ann :=.nil
def zdr:Ann :=.nil
def zd7:Ann:=(.seq .nil (.seq .nil (.seq .nil (.seq .nil (.seq (.seq .nil (.blk (.loopBD ⟨[⟨false,35,0,(.int .i64),[],false⟩,⟨true,10,184,Zk,[],false⟩],[25]⟩ ⟨[⟨true,10,184,Zk,[],false⟩],[25]⟩ 0 .nil))) .nil)))))
def zmc:Ann :=.nil
abbrev ur:Sig:=⟨115,[(.slice .str),.str],[.str],fun x=>strings_Join x.1 x.2⟩
abbrev uK:Sig:=⟨131,[Zk,wP],[Zk],fun x=>Ha x.1 x.2⟩
abbrev zij:Sig:=⟨173,[Zk],[Zk],fun x=>iL x⟩
abbrev ny:Sig:=⟨129,[(.slice (.slice .str)),(.slice .str)],[(.slice wP),.bool],fun x=>iB x.1 x.2⟩
abbrev znu:Sig:=⟨65,[(.slice (.slice .str))],[(.int .i64)],fun x=>ii x⟩
abbrev I2:Sig:=⟨66,[(.slice (.slice .str))],[(.int .i64)],fun x=>mD x⟩
abbrev zlh:Sig:=⟨174,[Zk],[.str],fun x=>bW x⟩
abbrev zem:Sig:=⟨67,[(.slice (.slice .str)),(.slice .str)],[(.slice wP),(.int .i64)],fun x=>Ck x.1 x.2⟩
abbrev zdm:Sig:=⟨130,[(.slice (.slice .str)),(.int .i64)],[.str],fun x=>iI x.1 x.2⟩
abbrev zck:Sig:=⟨68,[(.slice (.slice .str)),(.slice .str),(.slice wP)],[(.int .i64),(.int .i64)],fun x=>Cm x.1 x.2.1 x.2.2⟩
abbrev zm0:Sig:=⟨69,[(.slice wP)],[(.slice wP)],fun x=>io x⟩
theorem zy8(y:(List (List js))):jU (cx [] [zj5]) Tryz.f65 zpa [(.slice (.slice .str))] [(.int .i64)] y=ii y:=by kernel_rfl
theorem zlv(y:(List (List js)))(pile:Int):jU (cx [] []) Tryz.f130 zdr [(.slice (.slice .str)),(.int .i64)] [.str] (y,pile)=iI y pile:=by kernel_rfl
theorem y39(y:(List (List js))):jU (cx [] []) Tryz.f66 Iz [(.slice (.slice .str))] [(.int .i64)] y=mD y:=by kernel_rfl
theorem zk6(y:(List (List js)))(request:(List js))(jV:(List Z0)):jU (cx [] [Cl,Ep,za0,uP,zdm,uK]) Tryz.f68 zd7 [(.slice (.slice .str)),(.slice .str),(.slice wP)] [(.int .i64),(.int .i64)] (y,request,jV)=Cm y request jV:=by kernel_rfl
theorem zlx(n:EW):jU (cx [] [ur]) Tryz.f174 zdt [Zk] [.str] n=bW n:=by kernel_rfl
theorem zv3(l:(List Z0)):jU (cx [] []) Tryz.f69 zmc [(.slice wP)] [(.slice wP)] l=io l:=by kernel_rfl
theorem znd(y:(List (List js)))(request:(List js)):jU (cx [] [Ep,uP,ny]) Tryz.f67 zf6 [(.slice (.slice .str)),(.slice .str)] [(.slice wP),(.int .i64)] (y,request)=Ck y request:=by kernel_rfl
set_option maxRecDepth 100000
section
variable (un:Has Tryz.prog ur) (Kb:Has Tryz.prog nM) (C9:Has Tryz.prog uK) (bT:Has Tryz.prog ny)
theorem y0d:Has Tryz.prog znu:=
 we vi vU vT vS (own:=[]) (all_cons zux all_nil) (n:=zpa) Tryz.func65 (by kernel_rfl) fun x=>zy8 x
theorem y6v:Has Tryz.prog I2:=
 we vi vU vT vS (own:=[]) all_nil (n:=Iz) Tryz.func66 (by kernel_rfl) fun x=>y39 x
include un in
theorem zn2:Has Tryz.prog zlh:=
 we vi vU vT vS (own:=[]) (all_cons un all_nil) (n:=zdt) Tryz.func174 (by kernel_rfl) fun x=>zlx x
include Kb bT in
theorem zoq:Has Tryz.prog zem:=
 we vi vU vT vS (own:=[]) (all_cons z25 (all_cons (R6 Kb) (all_cons bT all_nil))) (n:=zf6) Tryz.func67 (by kernel_rfl) fun x=>znd x.1 x.2
theorem zn0:Has Tryz.prog zdm:=
 we vi vU vT vS (own:=[]) all_nil (n:=zdr) Tryz.func130 (by kernel_rfl) fun x=>zlv x.1 x.2
include Kb C9 in
theorem zlr:Has Tryz.prog zck:=
 we vi vU vT vS (own:=[]) (all_cons C4 (all_cons z25 (all_cons zau (all_cons (R6 Kb) (all_cons zn0 (all_cons C9 all_nil)))))) (n:=zd7) Tryz.func68 (by kernel_rfl) fun x=>zk6 x.1 x.2.1 x.2.2
theorem zxt:Has Tryz.prog zm0:=
 we vi vU vT vS (own:=[]) all_nil (n:=zmc) Tryz.func69 (by kernel_rfl) fun x=>zv3 x
end
end Go.Lift
end
