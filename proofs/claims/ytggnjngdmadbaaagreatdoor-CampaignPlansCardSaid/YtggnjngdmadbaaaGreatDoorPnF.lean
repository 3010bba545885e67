/-
  The functions of the law of plans, their code, their contracts.
-/
import Derived.Test.YtggnjngdmadbaaaGreatDoorPlF
noncomputable section
set_option linter.all false
namespace Go.Lift
open Go
def iz(y:(List (List js)))(request:(List js))(vp:(List Z0)):Option (Int×Int):=
 bif decide ((vp.length:Int)>40)then
 some (0,8)
 else
 (vz (S:=(List (List js))×Int×Int×Int) (R:=(Int×Int)⊕(Int×Int)) (fun s=>
 let dw:(List (List js)):=s.1
 let Qy:Int:=s.2.1
 let HS:Int:=s.2.2.1
 let i:Int:=s.2.2.2
 bif decide (i<(vp.length:Int))then
 chk (decide ((0:Int)≤i)&&decide (i<(vp.length:Int))) (
 (WI dw (jt (0,0) vp i)).bind fun(r:(List (List js))×Int)=>
 bif (r.2 !=0)then
 Option.map Sum.inr (Option.map Sum.inr (
 some (i,r.2)))
 else
 chk (decide ((0:Int)≤i)&&decide (i<(vp.length:Int))) (
 (bif (((jt (0,0) vp i).2)!=(-1))then
 some (.inl (Qy,jv (HS+1)))
 else
 chk (decide ((0:Int)≤i)&&decide (i<(vp.length:Int))) (
 chk (decide ((0:Int)≤((jt (0,0) vp i).1))&&decide (((jt (0,0) vp i).1)<(dw.length:Int))) (
 let pile:(List js):=jt [] dw ((jt (0,0) vp i).1)
 (bif (Qy==(request.length:Int))then some true else
 chk (decide ((0:Int)≤(jv ((pile.length:Int)-1)))&&decide ((jv ((pile.length:Int)-1))<(pile.length:Int))) (
 chk (decide ((0:Int)≤Qy)&&decide (Qy<(request.length:Int))) (
 some (!jO (jt ByteArray.empty pile (jv ((pile.length:Int)-1))) (jt ByteArray.empty request Qy))))).bind fun(c:Bool)=>
 bif c then
 Option.map Sum.inr (
 Option.map Sum.inr (Option.map Sum.inr (
 some (i,24))))
 else
 some (.inl (jv (Qy+1),HS)))):Option ((Int×Int)⊕(((List (List js))×Int×Int×Int)⊕((Int×Int)⊕(Int×Int))))).bind fun j=>match j with
 |.inl j=>(
 let Wc:Int:=j.1
 let HR:Int:=j.2
 some (.inl (r.1,Wc,HR,jv (i+1))))
 |.inr r=>some r))
 else
 some (.inr (.inl (Qy,HS)))) (y,0,0,0)).bind fun j=>match j with
 |.inl b=>(
 let Bt:Int:=b.1
 let cH:Int:=b.2
 bif decide (Bt<(request.length:Int))then
 let t:Int:=(vp.length:Int)
 some (t,14)
 else
 some (cH,0))
 |.inr r=>some r
def CH(s:vE)(request:(List js)):Option (vE):=
 (vz (S:=Bool×vE) (R:=vE) (fun Qq=>
 let oJ:Bool:=Qq.1
 let Xg:vE:=Qq.2
 bif oJ then
 (vz (S:=Bool×Int×vE) (R:=Bool×vE) (fun Kc=>
 let Zn:Bool:=Kc.1
 let i:Int:=Kc.2.1
 let Y1:vE:=Kc.2.2
 bif (((decide (i<(List.length Y1.1:Int)))&&(!Zn))&&(decide (Y1.2<(request.length:Int))))then
 chk (decide ((0:Int)≤i)&&decide (i<(List.length Y1.1:Int))) (
 let top:Int:=jv ((List.length (jt [] Y1.1 i):Int)-1)
 (bif decide (top≥0)then
 chk (decide ((0:Int)≤i)&&decide (i<(List.length Y1.1:Int))) (
 chk (decide ((0:Int)≤top)&&decide (top<(List.length (jt [] Y1.1 i):Int))) (
 chk (decide ((0:Int)≤Y1.2)&&decide (Y1.2<(request.length:Int))) (
 some (jO (jt ByteArray.empty (jt [] Y1.1 i) top) (jt ByteArray.empty request Y1.2)))))
 else some false).bind fun(c:Bool)=>
 (bif c then
 (WI Y1.1 (i,(-1))).bind fun(r:(List (List js))×Int)=>
 some (true,(r.1,jv (Y1.2+1)))
 else
 some (Zn,Y1)).bind fun(j:Bool×vE)=>
 let Wb:Bool:=j.1
 let Nn:vE:=j.2
 some (.inl (Wb,jv (i+1),Nn)))
 else
 some (.inr (Zn,Y1))) (false,0,Xg)).bind fun(b:Bool×vE)=>
 let Br:Bool:=b.1
 let s_6:vE:=b.2
 some (.inl (Br,s_6))
 else
 some (.inr Xg)) (true,s)).bind fun(s_7:vE)=>
 some s_7
def mi(y:(List (List js)))(request:(List js)):Option (Int×Bool):=
 (AE y).bind fun(t:(List (List js)))=>
 (CH (t,0) request).bind fun(jQ:vE)=>
 (vz (S:=(List vE)×(List Int)×Int) (R:=(Unit)⊕(Int×Bool)) (fun s=>
 let Y7:(List vE):=s.1
 let Vw:(List Int):=s.2.1
 let i:Int:=s.2.2
 bif decide (i<(Y7.length:Int))then
 chk (decide ((0:Int)≤i)&&decide (i<(Y7.length:Int))) (
 bif (((jt ([],0) Y7 i).2)==(request.length:Int))then
 chk (decide ((0:Int)≤i)&&decide (i<(Vw.length:Int))) (
 Option.map Sum.inr (Option.map Sum.inr (
 some (jt 0 Vw i,true))))
 else
 (vz (S:=(List vE)×(List Int)×Int) (R:=(List vE)×(List Int)) (fun Qq=>
 let QQ:(List vE):=Qq.1
 let QP:(List Int):=Qq.2.1
 let QV:Int:=Qq.2.2
 bif decide (QV<(y.length:Int))then
 (vz (S:=(List vE)×(List Int)×Int) (R:=(List vE)×(List Int)) (fun Xg=>
 let jC:(List vE):=Xg.1
 let j5:(List Int):=Xg.2.1
 let to:Int:=Xg.2.2
 bif decide (to<(y.length:Int))then
 chk (decide ((0:Int)≤i)&&decide (i<(jC.length:Int))) (
 (WI ((jt ([],0) jC i).1) (QV,to)).bind fun(r:(List (List js))×Int)=>
 bif (r.2 !=0)then
 some (.inl (jC,j5,jv (to+1)))
 else
 chk (decide ((0:Int)≤i)&&decide (i<(jC.length:Int))) (
 (CH (r.1,(jt ([],0) jC i).2) request).bind fun(vb:vE)=>
 (vz (S:=Bool×Int) (R:=Bool) (fun Kc=>
 let is:Bool:=Kc.1
 let k:Int:=Kc.2
 bif ((decide (k<(jC.length:Int)))&&(!is))then
 chk (decide ((0:Int)≤k)&&decide (k<(jC.length:Int))) (
 (bif (((jt ([],0) jC k).2)==vb.2)then
 chk (decide ((0:Int)≤k)&&decide (k<(jC.length:Int))) (
 (Ch ((jt ([],0) jC k).1) vb.1).bind fun(vw:Bool)=>
 some vw)
 else some false).bind fun(c:Bool)=>
 some (.inl (c,jv (k+1))))
 else
 some (.inr is)) (false,0)).bind fun(H3:Bool)=>
 (bif !H3 then
 (app jC [vb]).bind fun(wq:List vE)=>
 chk (decide ((0:Int)≤i)&&decide (i<(j5.length:Int))) (
 (app j5 [jv ((jt 0 j5 i)+1)]).bind fun(wD:List Int)=>
 some (wq,wD))
 else
 some (jC,j5)).bind fun(j:(List vE)×(List Int))=>
 let Zp:(List vE):=j.1
 let Zl:(List Int):=j.2
 some (.inl (Zp,Zl,jv (to+1)))))
 else
 some (.inr (jC,j5))) (QQ,QP,0)).bind fun(b:(List vE)×(List Int))=>
 let Y6:(List vE):=b.1
 let YY:(List Int):=b.2
 some (.inl (Y6,YY,jv (QV+1)))
 else
 some (.inr (QQ,QP))) (Y7,Vw,0)).bind fun(DZ:(List vE)×(List Int))=>
 let Wg:(List vE):=DZ.1
 let K3:(List Int):=DZ.2
 some (.inl (Wg,K3,jv (i+1))))
 else
 some (.inr (.inl ()))) ([jQ],[0],0)).bind fun j=>match j with
 |.inl _=>(
 some (0,false))
 |.inr r=>some r
def nx(y:(List (List js)))(request:(List js))(vp:(List Z0)):Option (Bool):=
 (bB).bind fun(t:Bool)=>
 bif !t then
 some false
 else
 (mY y request).bind fun(jQ:Bool)=>
 (bif ((!jQ)||(decide ((vp.length:Int)>42)))then some true else
 (ii y).bind fun(vb:Int)=>
 (bif (vb==0)then
 (mD y).bind fun(vw:Int)=>
 some (decide (vw>4))
 else some false).bind fun(c:Bool)=>
 some c).bind fun(ZV:Bool)=>
 bif ZV then
 some true
 else
 (AE y).bind fun(wq:(List (List js)))=>
 (AH request).bind fun(wD:(List js))=>
 (Ck wq wD).bind fun(r:(List Z0)×Int)=>
 (AE y).bind fun(Qs:(List (List js)))=>
 (AH request).bind fun(Vz:(List js))=>
 (io vp).bind fun(HU:(List Z0))=>
 (Cm Qs Vz HU).bind fun(K9:Int×Int)=>
 (ii y).bind fun(Er:Int)=>
 (bif (Er==0)then
 (np y request).bind fun(YZ:Int)=>
 some YZ
 else
 some Er).bind fun(d:Int)=>
 bif (d !=0)then
 let VA:Bool:=((((r.2==d)&&(K9.2==d))&&((List.length r.1:Int)==0))&&(K9.1==0))
 some VA
 else
 (iz y request vp).bind fun(AT:Int×Int)=>
 bif ((K9.2 !=AT.2)||(K9.1 !=AT.1))then
 some false
 else
 (mi y request).bind fun(Cn:Int×Bool)=>
 bif !Cn.2 then
 let K7:Bool:=((r.2==12)&&((List.length r.1:Int)==0))
 some K7
 else
 (iz y request r.1).bind fun(AS:Int×Int)=>
 let K6:Bool:=(((r.2==0)&&(AS.2==0))&&(AS.1==Cn.1))
 some K6
open Go.Proofs
def zkd:Ann:=(.seq .nil (.seq .nil (.seq .nil (.seq (.seq .nil (.blk (.loopBD ⟨[⟨false,8,0,(.slice (.slice .str)),[],false⟩,⟨false,9,0,(.int .i64),[],false⟩,⟨false,10,0,(.int .i64),[],false⟩,⟨false,11,0,(.int .i64),[],false⟩],[]⟩ ⟨[⟨false,9,0,(.int .i64),[],false⟩,⟨false,10,0,(.int .i64),[],false⟩],[]⟩ 0 (.seq .nil (.seq (.blk (.seq .nil (.seq .nil (.seq (.seq .nil (.joinD ⟨[⟨false,9,0,(.int .i64),[],false⟩,⟨false,10,0,(.int .i64),[],false⟩],[]⟩ .nil .nil)) .nil)))) .nil))))) .nil))))
def y11:Ann:=(.seq .nil (.seq (.seq .nil (.blk (.loopB ⟨[⟨false,5,0,.bool,[],false⟩,⟨true,2,187,WK,[],false⟩],[4]⟩ ⟨[⟨true,2,187,WK,[],false⟩],[4]⟩ 0 (.seq .nil (.blk (.seq .nil (.seq .nil (.blk (.loopB ⟨[⟨false,5,0,.bool,[],false⟩,⟨false,6,0,(.int .i64),[],false⟩,⟨true,2,187,WK,[],false⟩],[4]⟩ ⟨[⟨false,5,0,.bool,[],false⟩,⟨true,2,187,WK,[],false⟩],[4]⟩ 2 (.seq .nil (.seq (.blk (.seq .nil (.seq .nil (.join ⟨[⟨false,5,0,.bool,[],false⟩,⟨true,2,187,WK,[],false⟩],[4]⟩ .nil .nil)))) .nil))))))))))) .nil))
def LD:Ann:=(.seq .nil (.seq .nil (.seq .nil (.seq (.seq .nil (.blk (.loopBD ⟨[⟨false,6,0,(.slice WK),[([],some 8001000600)],false⟩,⟨false,7,0,(.slice (.int .i64)),[([],some 8001000700)],false⟩,⟨false,8,0,(.int .i64),[],false⟩],[]⟩ ⟨[],[]⟩ 0 (.seq .nil (.seq (.blk (.seq .nil (.seq .nil (.blk (.loopB ⟨[⟨false,6,0,(.slice WK),[([],some 26001000600)],false⟩,⟨false,7,0,(.slice (.int .i64)),[([],some 26001000700)],false⟩,⟨false,9,0,(.int .i64),[],false⟩],[]⟩ ⟨[⟨false,6,0,(.slice WK),[([],some 29901000600)],false⟩,⟨false,7,0,(.slice (.int .i64)),[([],some 29901000700)],false⟩],[]⟩ 2 (.seq .nil (.seq (.blk (.seq .nil (.blk (.loopB ⟨[⟨false,6,0,(.slice WK),[([],some 30501000600)],false⟩,⟨false,7,0,(.slice (.int .i64)),[([],some 30501000700)],false⟩,⟨false,10,0,(.int .i64),[],false⟩],[]⟩ ⟨[⟨false,6,0,(.slice WK),[([],some 31401000600)],false⟩,⟨false,7,0,(.slice (.int .i64)),[([],some 31401000700)],false⟩],[]⟩ 4 (.seq .nil (.seq (.blk (.seq .nil (.seq .nil (.seq .nil (.seq .nil (.seq (.seq .nil (.blk (.loopB ⟨[⟨false,14,0,.bool,[],false⟩,⟨false,15,0,(.int .i64),[],false⟩],[13,30501000600,30501000700]⟩ ⟨[⟨false,14,0,.bool,[],false⟩],[13,30501000600,30501000700]⟩ 6 .nil))) (.seq .nil (.join ⟨[⟨false,6,0,(.slice WK),[([],some 31801000600)],false⟩,⟨false,7,0,(.slice (.int .i64)),[([],some 31801000700)],false⟩],[13]⟩ .nil .nil)))))))) .nil)))))) .nil))))))) .nil))))) .nil))))
def zf2:Ann:=(.seq .nil (.seq .nil (.seq .nil (.seq .nil (.seq .nil (.seq .nil (.seq (.seq .nil (.join ⟨[⟨false,11,0,(.int .i64),[],false⟩],[]⟩ .nil .nil)) .nil)))))))
abbrev zj6:Sig:=⟨70,[(.slice (.slice .str)),(.slice .str),(.slice wP)],[(.int .i64),(.int .i64)],fun x=>iz x.1 x.2.1 x.2.2⟩
abbrev Lw:Sig:=⟨132,[WK,(.slice .str)],[WK],fun x=>CH x.1 x.2⟩
abbrev Ik:Sig:=⟨71,[(.slice (.slice .str)),(.slice .str)],[(.int .i64),.bool],fun x=>mi x.1 x.2⟩
abbrev zek:Sig:=⟨12,[(.slice (.slice .str)),(.slice .str),(.slice wP)],[.bool],fun x=>nx x.1 x.2.1 x.2.2⟩
theorem ztx(y:(List (List js)))(request:(List js))(vp:(List Z0)):jU (cx [] [mZ]) Tryz.f70 zkd [(.slice (.slice .str)),(.slice .str),(.slice wP)] [(.int .i64),(.int .i64)] (y,request,vp)=iz y request vp:=by kernel_rfl
theorem yan(s:vE)(request:(List js)):jU (cx [] [mZ]) Tryz.f132 y11 [WK,(.slice .str)] [WK] (s,request)=CH s request:=by kernel_rfl
theorem y78(y:(List (List js)))(request:(List js)):jU (cx [] [up,mZ,zlz,Lw]) Tryz.f71 LD [(.slice (.slice .str)),(.slice .str)] [(.int .i64),.bool] (y,request)=mi y request:=by kernel_rfl
theorem zn9(y:(List (List js)))(request:(List js))(vp:(List Z0)):jU (cx [] [I0,zm1,up,Rt,zic,znu,I2,zem,zck,zm0,zj6,Ik]) Tryz.f12 zf2 [(.slice (.slice .str)),(.slice .str),(.slice wP)] [.bool] (y,request,vp)=nx y request vp:=by kernel_rfl
set_option maxRecDepth 100000
section
variable (Kb:Has Tryz.prog nM) (C6:Has Tryz.prog uE) (C5:Has Tryz.prog uC) (cb:Has Tryz.prog nI) (cj:Has Tryz.prog uN) (Ek:Has Tryz.prog mZ) (C9:Has Tryz.prog uK) (bT:Has Tryz.prog ny)
include Ek in
theorem zuy:Has Tryz.prog zj6:=
 we vi vU vT vS (own:=[]) (all_cons Ek all_nil) (n:=zkd) Tryz.func70 (by kernel_rfl) fun x=>ztx x.1 x.2.1 x.2.2
include Ek in
theorem ycq:Has Tryz.prog Lw:=
 we vi vU vT vS (own:=[]) (all_cons Ek all_nil) (n:=y11) Tryz.func132 (by kernel_rfl) fun x=>yan x.1 x.2
include Ek in
theorem y9v:Has Tryz.prog Ik:=
 we vi vU vT vS (own:=[]) (all_cons Rm (all_cons Ek (all_cons zxs (all_cons (ycq Ek) all_nil)))) (n:=LD) Tryz.func71 (by kernel_rfl) fun x=>y78 x.1 x.2
include Kb C6 C5 cb cj Ek C9 bT in
theorem zoo:Has Tryz.prog zek:=
 we vi vU vT vS (own:=[]) (all_cons (y6x Kb C6 C5 cb cj) (all_cons zxu (all_cons Rm (all_cons zm7 (all_cons ztd (all_cons y0d (all_cons y6v (all_cons (zoq Kb bT) (all_cons (zlr Kb C9) (all_cons zxt (all_cons (zuy Ek) (all_cons (y9v Ek) all_nil)))))))))))) (n:=zf2) Tryz.func12 (by kernel_rfl) fun x=>zn9 x.1 x.2.1 x.2.2
end
end Go.Lift
end
