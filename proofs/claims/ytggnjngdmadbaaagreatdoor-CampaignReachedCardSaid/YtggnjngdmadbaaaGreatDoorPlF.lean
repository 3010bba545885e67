/-
  The functions of the laws of plans, their code, their contracts.
-/
import Derived.Test.YtggnjngdmadbaaaGreatDoorYaF
noncomputable section
set_option linter.unusedSectionVars false
set_option linter.unusedVariables false
set_option linter.unusedSimpArgs false
namespace Go.Lift
open Go
def zgr(y:(List (List ByteArray))):Option (Int):=
 (zcm y).bind fun(r:Int×Int)=>
 some r.2
def znw(y:(List (List ByteArray))):Option (Int):=
 (z2l (S:=Int×Int) (R:=Int) (fun s=>
 let n:Int:=s.1
 let i:Int:=s.2
 bif decide (i < (List.length y:Int)) then
 chk (decide ((0:Int)≤i)&&decide (i < (List.length y:Int))) (
 let n_1:Int:=wi64 (n+(List.length (lget [] y i):Int))
 some (.inl (n_1,wi64 (i+1))))
 else
 some (.inr n)) (0,0)).bind fun(n_2:Int)=>
 some n_2
abbrev z2w:=List (List ByteArray)×List ByteArray×List (Int×Int)×Int
def zv0(n:z2w)(m:Int×Int):Bool:=
 decide (0≤m.1)&&decide (m.1 < (n.1.length:Int))&&decide (0 < (lget [] n.1 m.1).length)&&(bif m.2 == -1 then decide (0 < n.2.1.length) else decide (0≤m.2)&&decide (m.2 < (n.1.length:Int))&&(m.2 != m.1))&&decide (n.1.length≤1000)&&n.1.all (fun p=>decide (p.length≤999))&&decide (n.2.2.1.length≤1000000)
def z0w(n:z2w)(m:Int×Int):Option z2w:=
 bif zv0 n m then(zco n.1 m).bind fun y=>some (y,bif m.2 == -1 then n.2.1.drop 1 else n.2.1,n.2.2.1++[m],bif m.2 == -1 then n.2.2.2 else wi64 (n.2.2.2+1)) else none
def zm3(y:List (List ByteArray))(x:ByteArray):Option Nat:=y.findIdx? fun p=>bif decide (0 < p.length) then seqb (p.getD (p.length-1) ByteArray.empty) x else false
def zdi:Nat→z2w→Option z2w
 |0,n=>some n
 |k+1,n=>match n.2.1 with
 |[]=>some n
 |x::_=>match zm3 n.1 x with
 |none=>some n
 |some i=>(z0w n ((i:Int),-1)).bind fun t=>zdi k t
def z45(n:z2w):Option z2w:=bif zce n.1&&decide (n.2.1.length≤1000) then zdi n.2.1.length n else none
def strings_Join(l:List ByteArray)(s:ByteArray):Option ByteArray:=
 bif decide (l.length≤4294967296)&&decide ((Lib.join (l.map (·.data.toList)) s.data.toList).length≤4294967296) then some ⟨(Lib.join (l.map (·.data.toList)) s.data.toList).toArray⟩ else none
def z47(n:z39):Option (ByteArray):=
 (z2l (S:=(List ByteArray)×Int) (R:=(List ByteArray)) (fun s=>
 let w:(List ByteArray):=s.1
 let t:Int:=s.2
 bif decide (t < (List.length n.1:Int)) then
 chk (decide ((0:Int)≤t)&&decide (t < (List.length n.1:Int))) (
 (strings_Join (lget [] n.1 t) (bytes [32])).bind fun(t_1:ByteArray)=>
 (app w [t_1]).bind fun(t_2:List ByteArray)=>
 some (.inl (t_2,wi64 (t+1))))
 else
 some (.inr w)) ([],0)).bind fun(w_1:(List ByteArray))=>
 (strings_Join w_1 (bytes [47])).bind fun(t_3:ByteArray)=>
 some t_3
def zlp(k:Nat):List (Int×Int):=(List.range k).flatMap fun(a:Nat)=>(List.range k).map fun(b:Nat)=>((a:Int),(b:Int))
def z9o(y:List (List ByteArray)):List (Int×Int)→Option (List (Int×Int))
 |[]=>some []
 |m::l=>(z19 y m).bind fun e=>(z9o y l).bind fun r=>some (bif e == 0 then m::r else r)
def zv3(y:List (List ByteArray)):Option (List (Int×Int)):=bif decide (y.length≤1000) then z9o y (zlp y.length) else none
abbrev PutL:=List (Int×z2w)
def putN(ps:PutL)(n:z2w):Option PutL:=
 (z45 n).bind fun t=>(z1l t.1 t.2.1).bind fun b=>bif decide (0≤t.2.2.2)&&decide (t.2.2.2≤4294967296)&&decide (ps.length≤100000000)&&decide (b.length≤1000000) then some (ps++[(t.2.2.2+(b.length:Int),t)]) else none
def zei(n:z2w):List (Int×Int)→PutL→Option PutL
 |[],ps=>some ps
 |m::l,ps=>(z0w n m).bind fun t=>(putN ps t).bind fun qs=>zei n l qs
def z36(ps:PutL)(k:Int):List z2w:=(ps.filter fun e=>e.1 == k).map fun e=>e.2
def zcp(ps:PutL):Int:=ps.foldl (fun m e=>max m e.1) 0
inductive zh7 (k:Int):Nat→PutL→List ByteArray→Nat→(PutL×List ByteArray)⊕List (Int×Int)→Prop where
 |stop {N:Nat} {ps:PutL} {done:List ByteArray} {i:Nat}:(z36 ps k).length≤i→zh7 k N ps done i (.inl (ps,done))
 |goal {N:Nat} {ps:PutL} {done:List ByteArray} {i:Nat} {n:z2w}:(z36 ps k)[i]?=some n→n.2.1=[]→zh7 k N ps done i (.inr n.2.2.1)
 |skip {N:Nat} {ps:PutL} {done:List ByteArray} {i:Nat} {n:z2w} {s:ByteArray} {r:(PutL×List ByteArray)⊕List (Int×Int)}:(z36 ps k)[i]?=some n→n.2.1≠[]→z47 n=some s→s∈done→zh7 k N ps done (i+1) r→zh7 k (N+1) ps done i r
 |turn {N:Nat} {ps qs:PutL} {done:List ByteArray} {i:Nat} {n:z2w} {s:ByteArray} {ms:List (Int×Int)} {r:(PutL×List ByteArray)⊕List (Int×Int)}:(z36 ps k)[i]?=some n→n.2.1≠[]→z47 n=some s→s∉done→done.length≤100000000→zv3 n.1=some ms→zei n ms ps=some qs→zh7 k N qs (s::done) (i+1) r→zh7 k (N+1) ps done i r
inductive zk3:Nat→PutL→List ByteArray→Nat→List (Int×Int)×Bool→Prop where
 |stop {N:Nat} {ps:PutL} {done:List ByteArray} {k:Nat}:zcp ps < (k:Int)→zk3 N ps done k ([],false)
 |goal {N K:Nat} {ps:PutL} {done:List ByteArray} {k:Nat} {l:List (Int×Int)}:(k:Int)≤zcp ps→zh7 (k:Int) K ps done 0 (.inr l)→zk3 N ps done k (l,true)
 |next {N K:Nat} {ps qs:PutL} {done done':List ByteArray} {k:Nat} {r:List (Int×Int)×Bool}:(k:Int)≤zcp ps→zh7 (k:Int) K ps done 0 (.inl (qs,done'))→zk3 N qs done' (k+1) r→zk3 (N+1) ps done k r
def zxt(y:List (List ByteArray))(request:List ByteArray)(r:List (Int×Int)×Bool):Prop:=∃ps N,putN [] (y,request,[],0)=some ps∧zk3 N ps [] 0 r
open Classical in
def z8l(y:List (List ByteArray))(request:List ByteArray):Option (List (Int×Int)×Bool):=if h:∃r,zxt y request r then some (Classical.choose h) else none
def z4l(y:(List (List ByteArray)))(request:(List ByteArray)):Option ((List z0t)×Int):=
 (z1y y request).bind fun(r:(List (List ByteArray))×Int)=>
 bif (r.2 != 0) then
 some ([],r.2)
 else
 (z8l r.1 request).bind fun(r_1:(List z0t)×Bool)=>
 (z0c r_1.2 12).bind fun(t:Int)=>
 some (r_1.1,t)
def z57(y:(List (List ByteArray)))(pile:Int):Option (ByteArray):=
 chk (decide ((0:Int)≤pile)&&decide (pile < (List.length y:Int))) (
 chk (decide ((0:Int)≤pile)&&decide (pile < (List.length y:Int))) (
 chk (decide ((0:Int)≤(wi64 ((List.length (lget [] y pile):Int)-1)))&&decide ((wi64 ((List.length (lget [] y pile):Int)-1)) < (List.length (lget [] y pile):Int))) (
 let t:ByteArray:=lget ByteArray.empty (lget [] y pile) (wi64 ((List.length (lget [] y pile):Int)-1))
 some t)))
def z2h(y:(List (List ByteArray)))(request:(List ByteArray))(moves:(List z0t)):Option (Int×Int):=
 (z1y y request).bind fun(r:(List (List ByteArray))×Int)=>
 (z0c (decide ((List.length moves:Int)≤40)) 8).bind fun(t:Int)=>
 (z1e [r.2,t]).bind fun(t_1:Int)=>
 bif (t_1 != 0) then
 some (0,t_1)
 else
 (z2l (S:=Int×z39) (R:=(z39)⊕(Int×Int)) (fun s=>
 let t_2:Int:=s.1
 let n:z39:=s.2
 bif decide (t_2 < (List.length moves:Int)) then
 chk (decide ((0:Int)≤t_2)&&decide (t_2 < (List.length moves:Int))) (
 let m:z0t:=lget (0,0) moves t_2
 (z19 n.1 m).bind fun(t_3:Int)=>
 bif (t_3 != 0) then
 Option.map Sum.inr (Option.map Sum.inr (
 some (t_2,t_3)))
 else
 (bif (m.2 == (-1)) then
 (bif ((List.length n.2.1:Int) == 0) then some true else
 (z57 n.1 m.1).bind fun(t_4:ByteArray)=>
 chk (decide ((0:Int)≤0)&&decide (0 < (List.length n.2.1:Int))) (
 some (!seqb t_4 (lget ByteArray.empty n.2.1 0)))).bind fun(c:Bool)=>
 some c
 else some false).bind fun(c_1:Bool)=>
 bif c_1 then
 Option.map Sum.inr (Option.map Sum.inr (
 some (t_2,24)))
 else
 (z0w n m).bind fun(t_5:z39)=>
 some (.inl (wi64 (t_2+1),t_5)))
 else
 some (.inr (.inl n))) (0,(r.1,(request,([],0))))).bind fun j=>match j with
 |.inl n_1=>(
 bif decide ((List.length n_1.2.1:Int) > 0) then
 let t_6:Int:=(List.length moves:Int)
 some (t_6,14)
 else
 some (n_1.2.2.2,0))
 |.inr r=>some r
def z9n(l:(List z0t)):Option ((List z0t)):=
 (app [] l).bind fun(t:List z0t)=>
 some t
def z5q(y:(List (List ByteArray)))(request:(List ByteArray))(plan:(List z0t)):Option (Bool):=
 (zhn).bind fun(t:Bool)=>
 bif !t then
 some false
 else
 (zep y request).bind fun(t_1:Bool)=>
 (bif ((!t_1)||(decide ((List.length plan:Int) > 40))) then some true else
 (zgr y).bind fun(t_2:Int)=>
 some (t_2 != 0)).bind fun(c:Bool)=>
 (bif c then some true else
 (znw y).bind fun(t_3:Int)=>
 some (decide (t_3 > 6))).bind fun(c_1:Bool)=>
 (bif c_1 then some true else
 (zaj y request).bind fun(t_4:Int)=>
 some (t_4 != 0)).bind fun(c_2:Bool)=>
 bif c_2 then
 some true
 else
 (z5b y).bind fun(t_5:(List (List ByteArray)))=>
 (z3g request).bind fun(t_6:(List ByteArray))=>
 (z4l t_5 t_6).bind fun(r:(List z0t)×Int)=>
 (z5b y).bind fun(t_7:(List (List ByteArray)))=>
 (z3g request).bind fun(t_8:(List ByteArray))=>
 (z35 t_7 t_8).bind fun(r_1:(List ByteArray)×Int)=>
 bif ((r_1.2 != 0)||(decide ((List.length r_1.1:Int) > 6))) then
 some false
 else
 bif (r.2 != 0) then
 let t_9:Bool:=(((r.2 == 12)&&((List.length r.1:Int) == 0))&&(decide ((List.length r_1.1:Int) > 0)))
 some t_9
 else
 (z5b y).bind fun(t_10:(List (List ByteArray)))=>
 (z3g request).bind fun(t_11:(List ByteArray))=>
 (z9n r.1).bind fun(t_12:(List z0t))=>
 (z2h t_10 t_11 t_12).bind fun(r_2:Int×Int)=>
 (bif (((r_2.2 != 0)||(decide (r_2.1 < (List.length r_1.1:Int))))||(((List.length r_1.1:Int) == 0)&&(r_2.1 != 0))) then some true else
 some ((List.length r.1:Int) != (wi64 (r_2.1+(List.length request:Int))))).bind fun(c_3:Bool)=>
 bif c_3 then
 some false
 else
 (z5b y).bind fun(t_13:(List (List ByteArray)))=>
 (z3g request).bind fun(t_14:(List ByteArray))=>
 (z9n plan).bind fun(t_15:(List z0t))=>
 (z2h t_13 t_14 t_15).bind fun(r_3:Int×Int)=>
 bif ((r_3.2 == 0)&&(decide (r_3.1 < r_2.1))) then
 some false
 else
 bif ((List.length request:Int) == 0) then
 some true
 else
 chk (decide ((0:Int)≤0)&&decide ((0:Int)≤(wi64 ((List.length request:Int)-1)))&&decide ((wi64 ((List.length request:Int)-1))≤(List.length request:Int))) (
 (z3g (List.drop (Int.toNat 0) (List.take (Int.toNat (wi64 ((List.length request:Int)-1))) request))).bind fun(t_16:(List ByteArray))=>
 (z5b y).bind fun(t_17:(List (List ByteArray)))=>
 (z3g t_16).bind fun(t_18:(List ByteArray))=>
 (z4l t_17 t_18).bind fun(r_4:(List z0t)×Int)=>
 bif (r_4.2 != 0) then
 some false
 else
 (z5b y).bind fun(t_19:(List (List ByteArray)))=>
 (z9n r_4.1).bind fun(t_20:(List z0t))=>
 (z2h t_19 t_16 t_20).bind fun(r_5:Int×Int)=>
 let t_21:Bool:=((r_5.2 == 0)&&(decide (r_5.1≤r_2.1)))
 some t_21)
end Go.Lift
namespace Go.Lift
open Go Go.Proofs
def zon:Ann :=.nil
def ztm:Ann:=(.seq .nil (.seq .nil (.seq (.seq .nil (.blk (.loopB ⟨[⟨false,3,0,(.int .i64),[],false⟩,⟨false,4,0,(.int .i64),[],false⟩],[]⟩ ⟨[⟨false,3,0,(.int .i64),[],false⟩],[]⟩ 0 .nil))) .nil)))
def zds:Ann:=(.seq .nil (.seq .nil (.seq (.seq .nil (.blk (.loopB ⟨[⟨false,3,0,(.slice .str),[([],some 101000300)],false⟩,⟨false,9,0,(.int .i64),[],false⟩],[1]⟩ ⟨[⟨false,3,0,(.slice .str),[([],some 201000300)],false⟩],[1]⟩ 0 .nil))) .nil)))
def zex:Ann :=.nil
def zdq:Ann :=.nil
def zd5:Ann:=(.seq .nil (.seq .nil (.seq .nil (.seq .nil (.seq (.seq .nil (.blk (.loopBD ⟨[⟨false,35,0,(.int .i64),[],false⟩,⟨true,10,184,z0b,[],false⟩],[25]⟩ ⟨[⟨true,10,184,z0b,[],false⟩],[25]⟩ 0 .nil))) .nil)))))
def zlw:Ann :=.nil
def zd2:Ann :=.nil
abbrev zaf:Sig:=⟨115,[(.slice .str),.str],[.str],fun x=>strings_Join x.1 x.2⟩
abbrev z7t:Sig:=⟨131,[z0b,z0d],[z0b],fun x=>z0w x.1 x.2⟩
abbrev zbg:Sig:=⟨173,[z0b],[z0b],fun x=>z45 x⟩
abbrev z9i:Sig:=⟨129,[(.slice (.slice .str)),(.slice .str)],[(.slice z0d),.bool],fun x=>z8l x.1 x.2⟩
abbrev zn9:Sig:=⟨65,[(.slice (.slice .str))],[(.int .i64)],fun x=>zgr x⟩
abbrev zr9:Sig:=⟨66,[(.slice (.slice .str))],[(.int .i64)],fun x=>znw x⟩
abbrev zl3:Sig:=⟨174,[z0b],[.str],fun x=>z47 x⟩
abbrev zec:Sig:=⟨67,[(.slice (.slice .str)),(.slice .str)],[(.slice z0d),(.int .i64)],fun x=>z4l x.1 x.2⟩
abbrev zdk:Sig:=⟨130,[(.slice (.slice .str)),(.int .i64)],[.str],fun x=>z57 x.1 x.2⟩
abbrev zci:Sig:=⟨68,[(.slice (.slice .str)),(.slice .str),(.slice z0d)],[(.int .i64),(.int .i64)],fun x=>z2h x.1 x.2.1 x.2.2⟩
abbrev zlk:Sig:=⟨69,[(.slice z0d)],[(.slice z0d)],fun x=>z9n x⟩
abbrev zcf:Sig:=⟨13,[(.slice (.slice .str)),(.slice .str),(.slice z0d)],[.bool],fun x=>z5q x.1 x.2.1 x.2.2⟩
theorem zxj(y:(List (List ByteArray))):funK (cx [] [ziy]) Tryz.f65 zon [(.slice (.slice .str))] [(.int .i64)] y=zgr y:=by kernel_rfl
theorem zlg(y:(List (List ByteArray)))(pile:Int):funK (cx [] []) Tryz.f130 zdq [(.slice (.slice .str)),(.int .i64)] [.str] (y,pile)=z57 y pile:=by kernel_rfl
theorem y2c(y:(List (List ByteArray))):funK (cx [] []) Tryz.f66 ztm [(.slice (.slice .str))] [(.int .i64)] y=znw y:=by kernel_rfl
theorem zjw(y:(List (List ByteArray)))(request:(List ByteArray))(moves:(List z0t)):funK (cx [] [z2b,z1g,z9z,z4v,zdk,z7t]) Tryz.f68 zd5 [(.slice (.slice .str)),(.slice .str),(.slice z0d)] [(.int .i64),(.int .i64)] (y,request,moves)=z2h y request moves:=by kernel_rfl
theorem zli(n:z39):funK (cx [] [zaf]) Tryz.f174 zds [z0b] [.str] n=z47 n:=by kernel_rfl
theorem zuh(l:(List z0t)):funK (cx [] []) Tryz.f69 zlw [(.slice z0d)] [(.slice z0d)] l=z9n l:=by kernel_rfl
theorem zmr(y:(List (List ByteArray)))(request:(List ByteArray)):funK (cx [] [z1g,z4v,z9i]) Tryz.f67 zex [(.slice (.slice .str)),(.slice .str)] [(.slice z0d),(.int .i64)] (y,request)=z4l y request:=by kernel_rfl
theorem zjt(y:(List (List ByteArray)))(request:(List ByteArray))(plan:(List z0t)):funK (cx [] [zrb,zll,zg3,z7u,zee,zi5,zn9,zr9,zec,zci,zlk]) Tryz.f13 zd2 [(.slice (.slice .str)),(.slice .str),(.slice z0d)] [.bool] (y,request,plan)=z5q y request plan:=by kernel_rfl
set_option maxRecDepth 100000
section
variable (zcc:Has Tryz.prog zaf) (z08:Has Tryz.prog z3v) (z1r:Has Tryz.prog z4q) (z1s:Has Tryz.prog z4r) (z2k:Has Tryz.prog z3q) (z27:Has Tryz.prog z3w) (z2c:Has Tryz.prog z7t) (z67:Has Tryz.prog z9i)
theorem zzj:Has Tryz.prog zn9:=
 z13 z02 z0x z0y z0z (own:=[]) (all_cons zud all_nil) (n:=zon) Tryz.func65 (by kernel_rfl) fun x=>zxj x
theorem y5y:Has Tryz.prog zr9:=
 z13 z02 z0x z0y z0z (own:=[]) all_nil (n:=ztm) Tryz.func66 (by kernel_rfl) fun x=>y2c x
include zcc in
theorem zmh:Has Tryz.prog zl3:=
 z13 z02 z0x z0y z0z (own:=[]) (all_cons zcc all_nil) (n:=zds) Tryz.func174 (by kernel_rfl) fun x=>zli x
include z08 z67 in
theorem zo2:Has Tryz.prog zec:=
 z13 z02 z0x z0y z0z (own:=[]) (all_cons z24 (all_cons (z7b z08) (all_cons z67 all_nil))) (n:=zex) Tryz.func67 (by kernel_rfl) fun x=>zmr x.1 x.2
theorem zmg:Has Tryz.prog zdk:=
 z13 z02 z0x z0y z0z (own:=[]) all_nil (n:=zdq) Tryz.func130 (by kernel_rfl) fun x=>zlg x.1 x.2
include z08 z2c in
theorem zld:Has Tryz.prog zci:=
 z13 z02 z0x z0y z0z (own:=[]) (all_cons z3a (all_cons z24 (all_cons z4z (all_cons (z7b z08) (all_cons zmg (all_cons z2c all_nil)))))) (n:=zd5) Tryz.func68 (by kernel_rfl) fun x=>zjw x.1 x.2.1 x.2.2
theorem zx4:Has Tryz.prog zlk:=
 z13 z02 z0x z0y z0z (own:=[]) all_nil (n:=zlw) Tryz.func69 (by kernel_rfl) fun x=>zuh x
include z08 z1r z1s z2k z27 z2c z67 in
theorem zlb:Has Tryz.prog zcf:=
 z13 z02 z0x z0y z0z (own:=[]) (all_cons (y60 z08 z1r z1s z2k z27) (all_cons zx5 (all_cons zo0 (all_cons (zdn z08) (all_cons zlr (all_cons zss (all_cons zzj (all_cons y5y (all_cons (zo2 z08 z67) (all_cons (zld z08 z2c) (all_cons zx4 all_nil))))))))))) (n:=zd2) Tryz.func13 (by kernel_rfl) fun x=>zjt x.1 x.2.1 x.2.2
end
end Go.Lift
end
