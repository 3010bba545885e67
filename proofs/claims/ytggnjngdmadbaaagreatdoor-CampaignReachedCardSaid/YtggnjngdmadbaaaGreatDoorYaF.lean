/-
  The functions of the law of yards, their code, their contracts.
-/
import Derived.Test.YtggnjngdmadbaaaGreatDoorFunH
noncomputable section
set_option linter.unusedSectionVars false
set_option linter.unusedVariables false
set_option linter.unusedSimpArgs false
namespace Go.Lift
open Go
def ze1(l:(List ByteArray))(most:Int):Option (Bool):=
 bif decide ((List.length l:Int) > most) then
 some false
 else
 (z2l (S:=Int) (R:=(Unit)⊕(Bool)) (fun i=>
 bif decide (i < (List.length l:Int)) then
 chk (decide ((0:Int)≤i)&&decide (i < (List.length l:Int))) (
 bif decide ((ByteArray.size (lget ByteArray.empty l i):Int) > 20) then
 Option.map Sum.inr (Option.map Sum.inr (
 some false))
 else
 some (.inl (wi64 (i+1))))
 else
 some (.inr (.inl ()))) 0).bind fun j=>match j with
 |.inl _=>(
 some true)
 |.inr r=>some r
def zep(y:(List (List ByteArray)))(request:(List ByteArray)):Option (Bool):=
 (bif decide ((List.length y:Int) > 6) then some true else
 (ze1 request 10).bind fun(t:Bool)=>
 some (!t)).bind fun(c:Bool)=>
 bif c then
 some false
 else
 (z2l (S:=Int) (R:=(Unit)⊕(Bool)) (fun i=>
 bif decide (i < (List.length y:Int)) then
 chk (decide ((0:Int)≤i)&&decide (i < (List.length y:Int))) (
 (ze1 (lget [] y i) 8).bind fun(t_1:Bool)=>
 bif !t_1 then
 Option.map Sum.inr (Option.map Sum.inr (
 some false))
 else
 some (.inl (wi64 (i+1))))
 else
 some (.inr (.inl ()))) 0).bind fun j=>match j with
 |.inl _=>(
 some true)
 |.inr r=>some r
def z3g(l:(List ByteArray)):Option ((List ByteArray)):=
 (app [] l).bind fun(t:List ByteArray)=>
 some t
def z5b(y:(List (List ByteArray))):Option ((List (List ByteArray))):=
 (z2l (S:=(List (List ByteArray))×Int) (R:=(List (List ByteArray))) (fun s=>
 let out:(List (List ByteArray)):=s.1
 let i:Int:=s.2
 bif decide (i < (List.length y:Int)) then
 chk (decide ((0:Int)≤i)&&decide (i < (List.length y:Int))) (
 (z3g (lget [] y i)).bind fun(t:(List ByteArray))=>
 (app out [t]).bind fun(t_1:List (List ByteArray))=>
 some (.inl (t_1,wi64 (i+1))))
 else
 some (.inr out)) ([],0)).bind fun(out_1:(List (List ByteArray)))=>
 some out_1
def z3n(n:Int)(x:(List (List ByteArray))):Option (Bool):=
 (z0m n 0 (wi64 ((List.length x:Int)-1))).bind fun(t:Bool)=>
 some t
def z19(y:(List (List ByteArray)))(m:z0t):Option (Int):=
 (z3n m.1 y).bind fun(t:Bool)=>
 (bif !t then some true else
 (z3n m.2 y).bind fun(t_1:Bool)=>
 some ((!t_1)&&(m.2 != (-1)))).bind fun(c:Bool)=>
 bif c then
 some 6
 else
 chk (decide ((0:Int)≤m.1)&&decide (m.1 < (List.length y:Int))) (
 (z0c (decide ((List.length (lget [] y m.1):Int) > 0)) 11).bind fun(t_2:Int)=>
 (z0c (m.1 != m.2) 3).bind fun(t_3:Int)=>
 (bif (m.2 == (-1)) then some true else
 chk (decide ((0:Int)≤(imax m.2 0))&&decide ((imax m.2 0) < (List.length y:Int))) (
 some (decide ((List.length (lget [] y (imax m.2 0)):Int) < 6)))).bind fun(c_1:Bool)=>
 (z0c c_1 16).bind fun(t_4:Int)=>
 (z1e [t_2,t_3,t_4]).bind fun(t_5:Int)=>
 some t_5)
def zco(y:List (List ByteArray))(m:Int×Int):Option (List (List ByteArray)):=
 let p:=lget [] y m.1
 let y1:=lset y m.1 (p.take (p.length-1))
 bif m.2 != -1 then(app (lget [] y1 m.2) [lget ByteArray.empty p ((p.length:Int)-1)]).bind fun q=>some (lset y1 m.2 q) else some y1
def zce(y:List (List ByteArray)):Bool:=decide (y.length≤1000)&&y.all fun p=>decide (p.length≤999)
def z8m(l:(List ByteArray))(s:ByteArray):Option (Bool):=
 (z2l (S:=Int) (R:=(Unit)⊕(Bool)) (fun i=>
 bif decide (i < (List.length l:Int)) then
 chk (decide ((0:Int)≤i)&&decide (i < (List.length l:Int))) (
 bif seqb (lget ByteArray.empty l i) s then
 Option.map Sum.inr (Option.map Sum.inr (
 some true))
 else
 some (.inl (wi64 (i+1))))
 else
 some (.inr (.inl ()))) 0).bind fun j=>match j with
 |.inl _=>(
 some false)
 |.inr r=>some r
def zcm(y:(List (List ByteArray))):Option (Int×Int):=
 bif ((List.length y:Int) == 0) then
 some (0,10)
 else
 bif decide ((List.length y:Int) > 4) then
 some (0,8)
 else
 (z2l (S:=(List ByteArray)×Int) (R:=((List ByteArray))⊕(Int×Int)) (fun s=>
 let all:(List ByteArray):=s.1
 let i:Int:=s.2
 bif decide (i < (List.length y:Int)) then
 chk (decide ((0:Int)≤i)&&decide (i < (List.length y:Int))) (
 bif decide ((List.length (lget [] y i):Int) > 6) then
 Option.map Sum.inr (Option.map Sum.inr (
 some (i,8)))
 else
 (z2l (S:=(List ByteArray)×Int) (R:=((List ByteArray))⊕(((List ByteArray)×Int)⊕(((List ByteArray))⊕(Int×Int)))) (fun s_1=>
 let all_1:(List ByteArray):=s_1.1
 let k:Int:=s_1.2
 chk (decide ((0:Int)≤i)&&decide (i < (List.length y:Int))) (
 bif decide (k < (List.length (lget [] y i):Int)) then
 chk (decide ((0:Int)≤i)&&decide (i < (List.length y:Int))) (
 chk (decide ((0:Int)≤k)&&decide (k < (List.length (lget [] y i):Int))) (
 (zh2 (lget ByteArray.empty (lget [] y i) k)).bind fun(t:Bool)=>
 bif !t then
 Option.map Sum.inr (Option.map Sum.inr (
 Option.map Sum.inr (Option.map Sum.inr (
 some (i,4)))))
 else
 chk (decide ((0:Int)≤i)&&decide (i < (List.length y:Int))) (
 chk (decide ((0:Int)≤k)&&decide (k < (List.length (lget [] y i):Int))) (
 (z8m all_1 (lget ByteArray.empty (lget [] y i) k)).bind fun(t_1:Bool)=>
 bif t_1 then
 Option.map Sum.inr (Option.map Sum.inr (
 Option.map Sum.inr (Option.map Sum.inr (
 some (i,5)))))
 else
 chk (decide ((0:Int)≤i)&&decide (i < (List.length y:Int))) (
 chk (decide ((0:Int)≤k)&&decide (k < (List.length (lget [] y i):Int))) (
 (app all_1 [lget ByteArray.empty (lget [] y i) k]).bind fun(t_2:List ByteArray)=>
 some (.inl (t_2,wi64 (k+1)))))))))
 else
 some (.inr (.inl all_1)))) (all,0)).bind fun j=>match j with
 |.inl all_2=>(
 some (.inl (all_2,wi64 (i+1))))
 |.inr r=>some r)
 else
 some (.inr (.inl all))) ([],0)).bind fun j=>match j with
 |.inl all_3=>(
 bif decide ((List.length all_3:Int) > 8) then
 some (0,8)
 else
 some (0,0))
 |.inr r=>some r
def zaj(y:(List (List ByteArray)))(request:(List ByteArray)):Option (Int):=
 (z2l (S:=Int) (R:=(Unit)⊕(Int)) (fun i=>
 bif decide (i < (List.length request:Int)) then
 (z2l (S:=Bool×Int) (R:=Bool) (fun s=>
 let found:Bool:=s.1
 let k:Int:=s.2
 bif decide (k < (List.length y:Int)) then
 (bif found then some true else
 chk (decide ((0:Int)≤k)&&decide (k < (List.length y:Int))) (
 chk (decide ((0:Int)≤i)&&decide (i < (List.length request:Int))) (
 (z8m (lget [] y k) (lget ByteArray.empty request i)).bind fun(t:Bool)=>
 some t))).bind fun(c:Bool)=>
 some (.inl (c,wi64 (k+1)))
 else
 some (.inr found)) (false,0)).bind fun(found_1:Bool)=>
 bif !found_1 then
 Option.map Sum.inr (Option.map Sum.inr (
 some 6))
 else
 chk (decide ((0:Int)≤0)&&decide ((0:Int)≤i)&&decide (i≤(List.length request:Int))) (
 chk (decide ((0:Int)≤i)&&decide (i < (List.length request:Int))) (
 (z8m (List.drop (Int.toNat 0) (List.take (Int.toNat i) request)) (lget ByteArray.empty request i)).bind fun(t_1:Bool)=>
 bif t_1 then
 Option.map Sum.inr (Option.map Sum.inr (
 some 23))
 else
 some (.inl (wi64 (i+1)))))
 else
 some (.inr (.inl ()))) 0).bind fun j=>match j with
 |.inl _=>(
 some 0)
 |.inr r=>some r
end Go.Lift
namespace Go.Lift
open Go Go.Proofs
def ztn:Ann:=(.seq .nil (.seq .nil (.seq (.seq .nil (.blk (.loopBD ⟨[⟨false,5,0,(.int .i64),[],false⟩],[]⟩ ⟨[],[]⟩ 0 .nil))) .nil)))
def zlx:Ann:=(.seq .nil (.seq .nil (.seq (.seq .nil (.blk (.loopBD ⟨[⟨false,5,0,(.int .i64),[],false⟩],[]⟩ ⟨[],[]⟩ 0 .nil))) .nil)))
def zk2:Ann :=.nil
def zlv:Ann:=(.seq .nil (.seq .nil (.seq (.seq .nil (.blk (.loopB ⟨[⟨false,3,0,(.slice (.slice .str)),[([],some 101000300)],false⟩,⟨false,4,0,(.int .i64),[],false⟩],[]⟩ ⟨[⟨false,3,0,(.slice (.slice .str)),[([],some 201000300)],false⟩],[]⟩ 0 .nil))) .nil)))
def z8v:Ann :=.nil
def za6:Ann:=(.seq .nil (.seq (.frz 2 .nil) .nil))
def zoo:Ann:=(.seq .nil (.seq (.seq .nil (.blk (.loopBD ⟨[⟨false,5,0,(.int .i64),[],false⟩],[]⟩ ⟨[],[]⟩ 0 .nil))) .nil))
def zk1:Ann:=(.seq .nil (.seq .nil (.seq .nil (.seq .nil (.seq (.seq .nil (.blk (.loopBD ⟨[⟨false,4,0,(.slice .str),[([],some 401000400)],false⟩,⟨false,5,0,(.int .i64),[],false⟩],[]⟩ ⟨[⟨false,4,0,(.slice .str),[([],some 801000400)],false⟩],[]⟩ 0 (.seq .nil (.seq (.blk (.seq .nil (.seq .nil (.blk (.loopBD ⟨[⟨false,4,0,(.slice .str),[([],some 1001000400)],false⟩,⟨false,6,0,(.int .i64),[],false⟩],[]⟩ ⟨[⟨false,4,0,(.slice .str),[([],some 1101000400)],false⟩],[]⟩ 2 .nil))))) .nil))))) .nil)))))
def zia:Ann:=(.seq .nil (.seq (.seq .nil (.blk (.loopBD ⟨[⟨false,5,0,(.int .i64),[],false⟩],[]⟩ ⟨[],[]⟩ 0 (.seq .nil (.seq (.blk (.seq .nil (.seq (.seq .nil (.blk (.loopB ⟨[⟨false,6,0,.bool,[],false⟩,⟨false,7,0,(.int .i64),[],false⟩],[]⟩ ⟨[⟨false,6,0,.bool,[],false⟩],[]⟩ 2 .nil))) .nil))) .nil))))) .nil))
abbrev zra:Sig:=⟨98,[(.slice .str),(.int .i64)],[.bool],fun x=>ze1 x.1 x.2⟩
abbrev zll:Sig:=⟨36,[(.slice (.slice .str)),(.slice .str)],[.bool],fun x=>zep x.1 x.2⟩
abbrev zee:Sig:=⟨41,[(.slice .str)],[(.slice .str)],fun x=>z3g x⟩
abbrev zg3:Sig:=⟨38,[(.slice (.slice .str))],[(.slice (.slice .str))],fun x=>z5b x⟩
abbrev z8p:Sig:=⟨149,[(.int .i64),(.ptr (.slice (.slice .str)))],[.bool],fun x=>z3n x.1 x.2⟩
abbrev z9z:Sig:=⟨101,[(.slice (.slice .str)),z0d],[(.int .i64)],fun x=>z19 x.1 x.2⟩
abbrev zha:Sig:=⟨105,[(.slice .str),.str],[.bool],fun x=>z8m x.1 x.2⟩
abbrev ziy:Sig:=⟨42,[(.slice (.slice .str))],[(.int .i64),(.int .i64)],fun x=>zcm x⟩
abbrev zi5:Sig:=⟨45,[(.slice (.slice .str)),(.slice .str)],[(.int .i64)],fun x=>zaj x.1 x.2⟩
theorem y2d(l:(List ByteArray))(most:Int):funK (cx [] []) Tryz.f98 ztn [(.slice .str),(.int .i64)] [.bool] (l,most)=ze1 l most:=by kernel_rfl
theorem zfa(n:Int)(x:(List (List ByteArray))):funK (cx [] [z15]) Tryz.f149 z8v [(.int .i64),(.ptr (.slice (.slice .str)))] [.bool] (n,x)=z3n n x:=by kernel_rfl
theorem zui(y:(List (List ByteArray)))(request:(List ByteArray)):funK (cx [] [zra]) Tryz.f36 zlx [(.slice (.slice .str)),(.slice .str)] [.bool] (y,request)=zep y request:=by kernel_rfl
theorem zh0(y:(List (List ByteArray)))(m:z0t):funK (cx [] [z2b,z1g,z8p]) Tryz.f101 za6 [(.slice (.slice .str)),z0d] [(.int .i64)] (y,m)=z19 y m:=by kernel_rfl
theorem zqg(y:(List (List ByteArray)))(request:(List ByteArray)):funK (cx [] [zha]) Tryz.f45 zia [(.slice (.slice .str)),(.slice .str)] [(.int .i64)] (y,request)=zaj y request:=by kernel_rfl
theorem ztd(l:(List ByteArray)):funK (cx [] []) Tryz.f41 zk2 [(.slice .str)] [(.slice .str)] l=z3g l:=by kernel_rfl
theorem zxl(l:(List ByteArray))(s:ByteArray):funK (cx [] []) Tryz.f105 zoo [(.slice .str),.str] [.bool] (l,s)=z8m l s:=by kernel_rfl
theorem zug(y:(List (List ByteArray))):funK (cx [] [zee]) Tryz.f38 zlv [(.slice (.slice .str))] [(.slice (.slice .str))] y=z5b y:=by kernel_rfl
theorem ztc(y:(List (List ByteArray))):funK (cx [] [zps,zha]) Tryz.f42 zk1 [(.slice (.slice .str))] [(.int .i64),(.int .i64)] y=zcm y:=by kernel_rfl
set_option maxRecDepth 100000
section
theorem y5z:Has Tryz.prog zra:=
 z13 z02 z0x z0y z0z (own:=[]) all_nil (n:=ztn) Tryz.func98 (by kernel_rfl) fun x=>y2d x.1 x.2
theorem zx5:Has Tryz.prog zll:=
 z13 z02 z0x z0y z0z (own:=[]) (all_cons y5z all_nil) (n:=zlx) Tryz.func36 (by kernel_rfl) fun x=>zui x.1 x.2
theorem zlr:Has Tryz.prog zee:=
 z13 z02 z0x z0y z0z (own:=[]) all_nil (n:=zk2) Tryz.func41 (by kernel_rfl) fun x=>ztd x
theorem zo0:Has Tryz.prog zg3:=
 z13 z02 z0x z0y z0z (own:=[]) (all_cons zlr all_nil) (n:=zlv) Tryz.func38 (by kernel_rfl) fun x=>zug x
theorem zgc:Has Tryz.prog z8p:=
 z13 z02 z0x z0y z0z (own:=[]) (all_cons z1f all_nil) (n:=z8v) Tryz.func149 (by kernel_rfl) fun x=>zfa x.1 x.2
theorem z4z:Has Tryz.prog z9z:=
 z13 z02 z0x z0y z0z (own:=[]) (all_cons z3a (all_cons z24 (all_cons zgc all_nil))) (n:=za6) Tryz.func101 (by kernel_rfl) fun x=>zh0 x.1 x.2
theorem zq2:Has Tryz.prog zha:=
 z13 z02 z0x z0y z0z (own:=[]) all_nil (n:=zoo) Tryz.func105 (by kernel_rfl) fun x=>zxl x.1 x.2
theorem zud:Has Tryz.prog ziy:=
 z13 z02 z0x z0y z0z (own:=[]) (all_cons y20 (all_cons zq2 all_nil)) (n:=zk1) Tryz.func42 (by kernel_rfl) fun x=>ztc x
theorem zss:Has Tryz.prog zi5:=
 z13 z02 z0x z0y z0z (own:=[]) (all_cons zq2 all_nil) (n:=zia) Tryz.func45 (by kernel_rfl) fun x=>zqg x.1 x.2
end
end Go.Lift
end
