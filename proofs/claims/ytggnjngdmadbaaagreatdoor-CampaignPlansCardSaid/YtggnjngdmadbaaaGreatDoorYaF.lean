/-
  The functions of the law of yards, their code, their contracts.
-/
import Derived.Test.YtggnjngdmadbaaaGreatDoorFunH
noncomputable section
set_option linter.all false
namespace Go.Lift
open Go
def CS(l:(List js))(most:Int):Option (Bool):=
 bif decide ((l.length:Int)>most)then
 some false
 else
 (vz (S:=Int) (R:=(Unit)⊕(Bool)) (fun i=>
 bif decide (i<(l.length:Int))then
 chk (decide ((0:Int)≤i)&&decide (i<(l.length:Int))) (
 bif decide ((ByteArray.size (jt ByteArray.empty l i):Int)>20)then
 Option.map Sum.inr (Option.map Sum.inr (
 some false))
 else
 some (.inl (jv (i+1))))
 else
 some (.inr (.inl ()))) 0).bind fun j=>match j with
 |.inl _=>(
 some true)
 |.inr r=>some r
def mY(y:(List (List js)))(request:(List js)):Option (Bool):=
 (bif decide ((y.length:Int)>6)then some true else
 (CS request 10).bind fun(t:Bool)=>
 some (!t)).bind fun(c:Bool)=>
 bif c then
 some false
 else
 (vz (S:=Int) (R:=(Unit)⊕(Bool)) (fun i=>
 bif decide (i<(y.length:Int))then
 chk (decide ((0:Int)≤i)&&decide (i<(y.length:Int))) (
 (CS (jt [] y i) 8).bind fun(jQ:Bool)=>
 bif !jQ then
 Option.map Sum.inr (Option.map Sum.inr (
 some false))
 else
 some (.inl (jv (i+1))))
 else
 some (.inr (.inl ()))) 0).bind fun j=>match j with
 |.inl _=>(
 some true)
 |.inr r=>some r
def AH(l:(List js)):Option ((List js)):=
 (app [] l).bind fun(t:List js)=>
 some t
def AE(y:(List (List js))):Option ((List (List js))):=
 (vz (S:=(List (List js))×Int) (R:=(List (List js))) (fun s=>
 let out:(List (List js)):=s.1
 let i:Int:=s.2
 bif decide (i<(y.length:Int))then
 chk (decide ((0:Int)≤i)&&decide (i<(y.length:Int))) (
 (AH (jt [] y i)).bind fun(t:(List js))=>
 (app out [t]).bind fun(jQ:List (List js))=>
 some (.inl (jQ,jv (i+1))))
 else
 some (.inr out)) ([],0)).bind fun(wh:(List (List js)))=>
 some wh
def nO(n:Int)(x:(List (List js))):Option (Bool):=
 (Vt n 0 (jv ((x.length:Int)-1))).bind fun(t:Bool)=>
 some t
def Bb(y:(List (List js)))(m:Z0):Option (Int):=
 (nO m.1 y).bind fun(t:Bool)=>
 (bif !t then some true else
 (nO m.2 y).bind fun(jQ:Bool)=>
 some ((!jQ)&&(m.2 !=(-1)))).bind fun(c:Bool)=>
 bif c then
 some 6
 else
 chk (decide ((0:Int)≤m.1)&&decide (m.1<(y.length:Int))) (
 (Z1 (decide ((List.length (jt [] y m.1):Int)>0)) 11).bind fun(vb:Int)=>
 (Z1 (m.1 !=m.2) 3).bind fun(vw:Int)=>
 (bif (m.2==(-1))then some true else
 chk (decide ((0:Int)≤(Kn m.2 0))&&decide ((Kn m.2 0)<(y.length:Int))) (
 some (decide ((List.length (jt [] y (Kn m.2 0)):Int)<6)))).bind fun(ZV:Bool)=>
 (Z1 ZV 16).bind fun(wq:Int)=>
 (Jb [vb,vw,wq]).bind fun(wD:Int)=>
 some wD)
def V7(y:List (List js))(m:Int×Int):Option (List (List js)):=
 let p:=jt [] y m.1
 let y1:=QK y m.1 (p.take (p.length-1))
 bif m.2 != -1 then(app (jt [] y1 m.2) [jt ByteArray.empty p ((p.length:Int)-1)]).bind fun q=>some (QK y1 m.2 q)else some y1
def Vo(y:List (List js)):Bool:=decide (y.length≤1000)&&y.all fun p=>decide (p.length≤999)
def uj(y:List (List js))(m:Int×Int):Option (List (List js)×Int):=
 bif Vo y then(AJ y).bind fun r=>(bif r.2==0 then Bb y m else some r.2).bind fun e=>
 bif e !=0 then some ([],e)else(V7 y m).bind fun n=>some (n,0)else none
def C2(l:(List js))(s:js):Option (Bool):=
 (vz (S:=Int) (R:=(Unit)⊕(Bool)) (fun i=>
 bif decide (i<(l.length:Int))then
 chk (decide ((0:Int)≤i)&&decide (i<(l.length:Int))) (
 bif jO (jt ByteArray.empty l i) s then
 Option.map Sum.inr (Option.map Sum.inr (
 some true))
 else
 some (.inl (jv (i+1))))
 else
 some (.inr (.inl ()))) 0).bind fun j=>match j with
 |.inl _=>(
 some false)
 |.inr r=>some r
def nh(y:(List (List js))):Option (Int×Int):=
 bif ((y.length:Int)==0)then
 some (0,10)
 else
 bif decide ((y.length:Int)>4)then
 some (0,8)
 else
 (vz (S:=(List js)×Int) (R:=((List js))⊕(Int×Int)) (fun s=>
 let all:(List js):=s.1
 let i:Int:=s.2
 bif decide (i<(y.length:Int))then
 chk (decide ((0:Int)≤i)&&decide (i<(y.length:Int))) (
 bif decide ((List.length (jt [] y i):Int)>6)then
 Option.map Sum.inr (Option.map Sum.inr (
 some (i,8)))
 else
 (vz (S:=(List js)×Int) (R:=((List js))⊕(((List js)×Int)⊕(((List js))⊕(Int×Int)))) (fun Qq=>
 let V2:(List js):=Qq.1
 let k:Int:=Qq.2
 chk (decide ((0:Int)≤i)&&decide (i<(y.length:Int))) (
 bif decide (k<(List.length (jt [] y i):Int))then
 chk (decide ((0:Int)≤i)&&decide (i<(y.length:Int))) (
 chk (decide ((0:Int)≤k)&&decide (k<(List.length (jt [] y i):Int))) (
 (gY (jt ByteArray.empty (jt [] y i) k)).bind fun(t:Bool)=>
 bif !t then
 Option.map Sum.inr (Option.map Sum.inr (
 Option.map Sum.inr (Option.map Sum.inr (
 some (i,4)))))
 else
 chk (decide ((0:Int)≤i)&&decide (i<(y.length:Int))) (
 chk (decide ((0:Int)≤k)&&decide (k<(List.length (jt [] y i):Int))) (
 (C2 V2 (jt ByteArray.empty (jt [] y i) k)).bind fun(jQ:Bool)=>
 bif jQ then
 Option.map Sum.inr (Option.map Sum.inr (
 Option.map Sum.inr (Option.map Sum.inr (
 some (i,5)))))
 else
 chk (decide ((0:Int)≤i)&&decide (i<(y.length:Int))) (
 chk (decide ((0:Int)≤k)&&decide (k<(List.length (jt [] y i):Int))) (
 (app V2 [jt ByteArray.empty (jt [] y i) k]).bind fun(vb:List js)=>
 some (.inl (vb,jv (k+1)))))))))
 else
 some (.inr (.inl V2)))) (all,0)).bind fun j=>match j with
 |.inl all_2=>(
 some (.inl (all_2,jv (i+1))))
 |.inr r=>some r)
 else
 some (.inr (.inl all))) ([],0)).bind fun j=>match j with
 |.inl all_3=>(
 bif decide ((all_3.length:Int)>8)then
 some (0,8)
 else
 some (0,0))
 |.inr r=>some r
def WI(y:List (List js))(m:Int×Int):Option (List (List js)×Int):=
 bif Vo y then(As m.1 0 (jv ((y.length:Int)-1))).bind fun a=>(bif m.2 != -1 then As m.2 0 (jv ((y.length:Int)-1))else some true).bind fun b=>
 bif !a || !b then some ([],6)else bif ((jt [] y m.1).length:Int)==0 then some ([],11)else bif m.1==m.2 then some ([],3)else
 bif m.2 != -1&&decide (((jt [] y m.2).length:Int)≥6)then some ([],16)else
 (V7 y m).bind fun n=>some (n,0)else none
def Ch(a:(List (List js)))(b:(List (List js))):Option (Bool):=
 bif ((a.length:Int)!=(b.length:Int))then
 some false
 else
 (vz (S:=Int) (R:=(Unit)⊕(Bool)) (fun i=>
 bif decide (i<(a.length:Int))then
 chk (decide ((0:Int)≤i)&&decide (i<(a.length:Int))) (
 chk (decide ((0:Int)≤i)&&decide (i<(b.length:Int))) (
 (CP (jt [] a i) (jt [] b i)).bind fun(t:Bool)=>
 bif !t then
 Option.map Sum.inr (Option.map Sum.inr (
 some false))
 else
 some (.inl (jv (i+1)))))
 else
 some (.inr (.inl ()))) 0).bind fun j=>match j with
 |.inl _=>(
 some true)
 |.inr r=>some r
def np(y:(List (List js)))(request:(List js)):Option (Int):=
 (vz (S:=Int) (R:=(Unit)⊕(Int)) (fun i=>
 bif decide (i<(request.length:Int))then
 (vz (S:=Bool×Int) (R:=Bool) (fun s=>
 let JW:Bool:=s.1
 let k:Int:=s.2
 bif decide (k<(y.length:Int))then
 (bif JW then some true else
 chk (decide ((0:Int)≤k)&&decide (k<(y.length:Int))) (
 chk (decide ((0:Int)≤i)&&decide (i<(request.length:Int))) (
 (C2 (jt [] y k) (jt ByteArray.empty request i)).bind fun(t:Bool)=>
 some t))).bind fun(c:Bool)=>
 some (.inl (c,jv (k+1)))
 else
 some (.inr JW)) (false,0)).bind fun(BW:Bool)=>
 bif !BW then
 Option.map Sum.inr (Option.map Sum.inr (
 some 6))
 else
 chk (decide ((0:Int)≤0)&&decide ((0:Int)≤i)&&decide (i≤(request.length:Int))) (
 chk (decide ((0:Int)≤i)&&decide (i<(request.length:Int))) (
 (C2 (List.drop (Int.toNat 0) (List.take (Int.toNat i) request)) (jt ByteArray.empty request i)).bind fun(jQ:Bool)=>
 bif jQ then
 Option.map Sum.inr (Option.map Sum.inr (
 some 23))
 else
 some (.inl (jv (i+1)))))
 else
 some (.inr (.inl ()))) 0).bind fun j=>match j with
 |.inl _=>(
 some 0)
 |.inr r=>some r
open Go.Proofs
def Iy:Ann:=(.seq .nil (.seq .nil (.seq (.seq .nil (.blk (.loopBD ⟨[⟨false,5,0,(.int .i64),[],false⟩],[]⟩ ⟨[],[]⟩ 0 .nil))) .nil)))
def zmd:Ann:=(.seq .nil (.seq .nil (.seq (.seq .nil (.blk (.loopBD ⟨[⟨false,5,0,(.int .i64),[],false⟩],[]⟩ ⟨[],[]⟩ 0 .nil))) .nil)))
def zke:Ann :=.nil
def zmb:Ann:=(.seq .nil (.seq .nil (.seq (.seq .nil (.blk (.loopB ⟨[⟨false,3,0,(.slice (.slice .str)),[([],some 101000300)],false⟩,⟨false,4,0,(.int .i64),[],false⟩],[]⟩ ⟨[⟨false,3,0,(.slice (.slice .str)),[([],some 201000300)],false⟩],[]⟩ 0 .nil))) .nil)))
def z8w:Ann :=.nil
def za9:Ann:=(.seq .nil (.seq (.frz 2 .nil) .nil))
def zpb:Ann:=(.seq .nil (.seq (.seq .nil (.blk (.loopBD ⟨[⟨false,5,0,(.int .i64),[],false⟩],[]⟩ ⟨[],[]⟩ 0 .nil))) .nil))
def zkc:Ann:=(.seq .nil (.seq .nil (.seq .nil (.seq .nil (.seq (.seq .nil (.blk (.loopBD ⟨[⟨false,4,0,(.slice .str),[([],some 401000400)],false⟩,⟨false,5,0,(.int .i64),[],false⟩],[]⟩ ⟨[⟨false,4,0,(.slice .str),[([],some 801000400)],false⟩],[]⟩ 0 (.seq .nil (.seq (.blk (.seq .nil (.seq .nil (.blk (.loopBD ⟨[⟨false,4,0,(.slice .str),[([],some 1001000400)],false⟩,⟨false,6,0,(.int .i64),[],false⟩],[]⟩ ⟨[⟨false,4,0,(.slice .str),[([],some 1101000400)],false⟩],[]⟩ 2 .nil))))) .nil))))) .nil)))))
def zma:Ann:=(.seq .nil (.seq .nil (.seq (.seq .nil (.blk (.loopBD ⟨[⟨false,5,0,(.int .i64),[],false⟩],[]⟩ ⟨[],[]⟩ 0 .nil))) .nil)))
def zig:Ann:=(.seq .nil (.seq (.seq .nil (.blk (.loopBD ⟨[⟨false,5,0,(.int .i64),[],false⟩],[]⟩ ⟨[],[]⟩ 0 (.seq .nil (.seq (.blk (.seq .nil (.seq (.seq .nil (.blk (.loopB ⟨[⟨false,6,0,.bool,[],false⟩,⟨false,7,0,(.int .i64),[],false⟩],[]⟩ ⟨[⟨false,6,0,.bool,[],false⟩],[]⟩ 2 .nil))) .nil))) .nil))))) .nil))
abbrev mZ:Sig:=⟨43,[(.slice (.slice .str)),wP],[(.slice (.slice .str)),(.int .i64)],fun x=>WI x.1 x.2⟩
abbrev I1:Sig:=⟨98,[(.slice .str),(.int .i64)],[.bool],fun x=>CS x.1 x.2⟩
abbrev zm1:Sig:=⟨36,[(.slice (.slice .str)),(.slice .str)],[.bool],fun x=>mY x.1 x.2⟩
abbrev Rt:Sig:=⟨41,[(.slice .str)],[(.slice .str)],fun x=>AH x⟩
abbrev up:Sig:=⟨38,[(.slice (.slice .str))],[(.slice (.slice .str))],fun x=>AE x⟩
abbrev z8p:Sig:=⟨149,[(.int .i64),(.ptr (.slice (.slice .str)))],[.bool],fun x=>nO x.1 x.2⟩
abbrev za0:Sig:=⟨101,[(.slice (.slice .str)),wP],[(.int .i64)],fun x=>Bb x.1 x.2⟩
abbrev Rp:Sig:=⟨105,[(.slice .str),.str],[.bool],fun x=>C2 x.1 x.2⟩
abbrev zj5:Sig:=⟨42,[(.slice (.slice .str))],[(.int .i64),(.int .i64)],fun x=>nh x⟩
abbrev zlz:Sig:=⟨44,[(.slice (.slice .str)),(.slice (.slice .str))],[.bool],fun x=>Ch x.1 x.2⟩
abbrev zic:Sig:=⟨45,[(.slice (.slice .str)),(.slice .str)],[(.int .i64)],fun x=>np x.1 x.2⟩
theorem y3a(l:(List js))(most:Int):jU (cx [] []) Tryz.f98 Iy [(.slice .str),(.int .i64)] [.bool] (l,most)=CS l most:=by kernel_rfl
theorem zfk(n:Int)(x:(List (List js))):jU (cx [] [GX]) Tryz.f149 z8w [(.int .i64),(.ptr (.slice (.slice .str)))] [.bool] (n,x)=nO n x:=by kernel_rfl
theorem zv1(a:(List (List js)))(b:(List (List js))):jU (cx [] [U8]) Tryz.f44 zma [(.slice (.slice .str)),(.slice (.slice .str))] [.bool] (a,b)=Ch a b:=by kernel_rfl
theorem zv4(y:(List (List js)))(request:(List js)):jU (cx [] [I1]) Tryz.f36 zmd [(.slice (.slice .str)),(.slice .str)] [.bool] (y,request)=mY y request:=by kernel_rfl
theorem zh6(y:(List (List js)))(m:Z0):jU (cx [] [Cl,Ep,z8p]) Tryz.f101 za9 [(.slice (.slice .str)),wP] [(.int .i64)] (y,m)=Bb y m:=by kernel_rfl
theorem zr2(y:(List (List js)))(request:(List js)):jU (cx [] [Rp]) Tryz.f45 zig [(.slice (.slice .str)),(.slice .str)] [(.int .i64)] (y,request)=np y request:=by kernel_rfl
theorem zty(l:(List js)):jU (cx [] []) Tryz.f41 zke [(.slice .str)] [(.slice .str)] l=AH l:=by kernel_rfl
theorem zya(l:(List js))(s:js):jU (cx [] []) Tryz.f105 zpb [(.slice .str),.str] [.bool] (l,s)=C2 l s:=by kernel_rfl
theorem zv2(y:(List (List js))):jU (cx [] [Rt]) Tryz.f38 zmb [(.slice (.slice .str))] [(.slice (.slice .str))] y=AE y:=by kernel_rfl
theorem ztw(y:(List (List js))):jU (cx [] [zqc,Rp]) Tryz.f42 zkc [(.slice (.slice .str))] [(.int .i64),(.int .i64)] y=nh y:=by kernel_rfl
set_option maxRecDepth 100000
section
theorem y6w:Has Tryz.prog I1:=
 we vi vU vT vS (own:=[]) all_nil (n:=Iy) Tryz.func98 (by kernel_rfl) fun x=>y3a x.1 x.2
theorem zxu:Has Tryz.prog zm1:=
 we vi vU vT vS (own:=[]) (all_cons y6w all_nil) (n:=zmd) Tryz.func36 (by kernel_rfl) fun x=>zv4 x.1 x.2
theorem zm7:Has Tryz.prog Rt:=
 we vi vU vT vS (own:=[]) all_nil (n:=zke) Tryz.func41 (by kernel_rfl) fun x=>zty x
theorem Rm:Has Tryz.prog up:=
 we vi vU vT vS (own:=[]) (all_cons zm7 all_nil) (n:=zmb) Tryz.func38 (by kernel_rfl) fun x=>zv2 x
theorem zgk:Has Tryz.prog z8p:=
 we vi vU vT vS (own:=[]) (all_cons FA all_nil) (n:=z8w) Tryz.func149 (by kernel_rfl) fun x=>zfk x.1 x.2
theorem zau:Has Tryz.prog za0:=
 we vi vU vT vS (own:=[]) (all_cons C4 (all_cons z25 (all_cons zgk all_nil))) (n:=za9) Tryz.func101 (by kernel_rfl) fun x=>zh6 x.1 x.2
theorem zqm:Has Tryz.prog Rp:=
 we vi vU vT vS (own:=[]) all_nil (n:=zpb) Tryz.func105 (by kernel_rfl) fun x=>zya x.1 x.2
theorem zux:Has Tryz.prog zj5:=
 we vi vU vT vS (own:=[]) (all_cons y2x (all_cons zqm all_nil)) (n:=zkc) Tryz.func42 (by kernel_rfl) fun x=>ztw x
theorem zxs:Has Tryz.prog zlz:=
 we vi vU vT vS (own:=[]) (all_cons LV all_nil) (n:=zma) Tryz.func44 (by kernel_rfl) fun x=>zv1 x.1 x.2
theorem ztd:Has Tryz.prog zic:=
 we vi vU vT vS (own:=[]) (all_cons zqm all_nil) (n:=zig) Tryz.func45 (by kernel_rfl) fun x=>zr2 x.1 x.2
end
end Go.Lift
end
