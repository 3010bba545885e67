/-
  The functions that the laws of the chapter reach, as plain functions.
-/
import Derived.Lib.Join
import Derived.Lib.ItoaNum
import Derived.Test.YtggnjngdmadbaaaGreatDoorLiftN
noncomputable section
set_option linter.all false
abbrev jd:=@Go.Lib.join_one
namespace Go.Lift
open Go
def jv(x:Int):Int:=IntKind.i64.wrap x
def bytes(l:List UInt8):js:=⟨l.toArray⟩
end Go.Lift
namespace Go.Lift
abbrev wP:Ty :=.pair (.int .i64) (.int .i64)
abbrev Z0:Type:=(Int×Int)
abbrev Yy:Ty :=.pair (.int .i64) (.pair (.int .i64) wP)
abbrev Ql:Type:=(Int×(Int×Z0))
abbrev EX:Ty :=.pair .str Yy
abbrev En:Type:=(js×Ql)
abbrev GV:Ty :=.pair .str (.pair (.int .i64) (.pair (.int .i64) (.pair (.int .i64) (.pair (.int .i64) (.pair wP (.int .i64))))))
abbrev vn:Type:=(js×(Int×(Int×(Int×(Int×(Z0×Int))))))
abbrev Jc:Ty :=.pair (.int .i64) (.pair (.int .i64) (.pair (.int .i64) (.pair (.int .i64) (.pair (.int .i64) Yy))))
abbrev Vv:Type:=(Int×(Int×(Int×(Int×(Int×Ql)))))
abbrev Xf:Ty :=.pair Jc (.slice Yy)
abbrev Qk:Type:=(Vv×(List Ql))
abbrev yb1:Ty :=.pair (.slice (.int .i64)) (.slice (.int .i64))
abbrev WK:Ty :=.pair (.slice (.slice .str)) (.int .i64)
abbrev vE:Type:=((List (List js))×Int)
abbrev Zk:Ty :=.pair (.slice (.slice .str)) (.pair (.slice .str) (.pair (.slice wP) (.int .i64)))
abbrev EW:Type:=((List (List js))×((List js)×((List Z0)×Int)))
abbrev zdu:Ty :=.pair (.int .i64) (.pair (.int .i64) (.pair .bool (.int .u8)))
abbrev z87:Ty :=.pair .str (.int .u64)
abbrev Ry:Ty :=.pair (.slice .str) (.int .i64)
abbrev zhd:Ty :=.pair .str (.pair .str .err)
abbrev RD:Ty :=.pair (.int .u8) (.int .u8)
abbrev zf8:Ty :=.one .str
def Jb(l:(List Int)):Option (Int):=
 (vz (S:=Int) (R:=(Unit)⊕(Int)) (fun t=>
 bif decide (t<(l.length:Int))then
 chk (decide ((0:Int)≤t)&&decide (t<(l.length:Int))) (
 bif ((jt 0 l t)!=0)then
 Option.map Sum.inr (Option.map Sum.inr (
 some (jt 0 l t)))
 else
 some (.inl (jv (t+1))))
 else
 some (.inr (.inl ()))) 0).bind fun j=>match j with
 |.inl _=>(
 some 0)
 |.inr r=>some r
def Z1(is:Bool)(e:Int):Option (Int):=
 bif is then
 some 0
 else
 some e
def Vt(n:Int)(lo:Int)(hi:Int):Option (Bool):=
 let t:Bool:=((decide (lo≤n))&&(decide (n≤hi)))
 some t
def GU(s:js):Option (Bool):=
 (vz (S:=Int) (R:=(Unit)⊕(Bool)) (fun t=>
 bif decide (t<(List.length (Zj s):Int))then
 chk (decide ((0:Int)≤t)&&decide (t<(List.length (Zj s):Int))) (
 let c:Int:=jt 0 (Zj s) t
 (Vt (jv c) 97 122).bind fun(jQ:Bool)=>
 (bif jQ then some true else
 (Vt (jv c) 65 90).bind fun(vb:Bool)=>
 some vb).bind fun(ZV:Bool)=>
 (bif !ZV then
 (bif (t==0)then some true else
 (bif (c !=45)then
 (Vt (jv c) 48 57).bind fun(vw:Bool)=>
 some (!vw)
 else some false).bind fun(Xu:Bool)=>
 some Xu).bind fun(F6:Bool)=>
 some F6
 else some false).bind fun(fO:Bool)=>
 bif fO then
 Option.map Sum.inr (Option.map Sum.inr (
 some false))
 else
 some (.inl (jv (t+1))))
 else
 some (.inr (.inl ()))) 0).bind fun j=>match j with
 |.inl _=>(
 (Vt (ByteArray.size s:Int) 1 12).bind fun(wq:Bool)=>
 some wq)
 |.inr r=>some r
def bU(n:Int):Option (Bool):=
 (Vt n 1 99).bind fun(t:Bool)=>
 some t
def ce(n:Int):Option (Bool):=
 (Vt n 1 300000).bind fun(t:Bool)=>
 some t
def bV(n:Int):Option (Bool):=
 (Vt n 500 2500).bind fun(t:Bool)=>
 some t
def iD(n:Int):Option (Bool):=
 (Vt n 0 20000).bind fun(t:Bool)=>
 some t
def EY(o:vn):Option (Int):=
 (bU o.2.1).bind fun(t:Bool)=>
 (bif t then
 (ce o.2.2.1).bind fun(jQ:Bool)=>
 some jQ
 else some false).bind fun(c:Bool)=>
 (bif c then
 (Vt o.2.2.2.1 0 (jv (o.2.2.1-1))).bind fun(vb:Bool)=>
 some vb
 else some false).bind fun(ZV:Bool)=>
 (bif ZV then
 (bV o.2.2.2.2.1).bind fun(vw:Bool)=>
 some vw
 else some false).bind fun(Xu:Bool)=>
 (bif Xu then
 (iD o.2.2.2.2.2.1.1).bind fun(wq:Bool)=>
 some wq
 else some false).bind fun(F6:Bool)=>
 (bif F6 then
 (iD o.2.2.2.2.2.1.2).bind fun(wD:Bool)=>
 some wD
 else some false).bind fun(fO:Bool)=>
 (GU o.1).bind fun(Qs:Bool)=>
 (Z1 Qs 4).bind fun(Vz:Int)=>
 (Z1 fO 2).bind fun(HU:Int)=>
 (Z1 (decide (o.2.2.2.2.2.1.1≤o.2.2.2.2.2.1.2)) 9).bind fun(Er:Int)=>
 chk (10 !=0) (
 let YZ:Int:=Int.tmod o.2.2.2.2.2.1.1 10
 (bif (YZ==0)then
 chk (10 !=0) (
 let VA:Int:=Int.tmod o.2.2.2.2.2.1.2 10
 some (VA==0))
 else some false).bind fun(MP:Bool)=>
 (Z1 MP 3).bind fun(K7:Int)=>
 (Vt o.2.2.2.2.2.2 0 100000).bind fun(K6:Bool)=>
 (Z1 K6 2).bind fun(HV:Int)=>
 (Jb [Vz,HU,Er,K7,HV]).bind fun(cN:Int)=>
 some cN)
def nF(s:En):Option (Int):=
 (bU s.2.1).bind fun(t:Bool)=>
 (bif t then
 (ce s.2.2.1).bind fun(jQ:Bool)=>
 some jQ
 else some false).bind fun(c:Bool)=>
 (bif c then
 (bV s.2.2.2.1).bind fun(vb:Bool)=>
 some vb
 else some false).bind fun(ZV:Bool)=>
 (bif ZV then
 (Vt s.2.2.2.2 1 20000).bind fun(vw:Bool)=>
 some vw
 else some false).bind fun(Xu:Bool)=>
 (GU s.1).bind fun(wq:Bool)=>
 (Z1 wq 4).bind fun(wD:Int)=>
 (Z1 Xu 2).bind fun(Qs:Int)=>
 (Jb [wD,Qs]).bind fun(Vz:Int)=>
 some Vz
def nr(s:En)(o:vn):Option (Bool):=
 (bif (s.2.1==o.2.1)then
 (Vt s.2.2.2.1 o.2.2.2.2.1 (jv (o.2.2.2.2.1+100))).bind fun(t:Bool)=>
 some t
 else some false).bind fun(c:Bool)=>
 some c
def z59(s:En)(o:vn):Option (Z0×Int):=
 (nF s).bind fun(t:Int)=>
 (EY o).bind fun(jQ:Int)=>
 (nr s o).bind fun(vb:Bool)=>
 (Z1 vb 13).bind fun(vw:Int)=>
 (Jb [t,jQ,vw]).bind fun(wq:Int)=>
 bif (wq !=0)then
 some ((0,0),wq)
 else
 let Vx:Int:=jv ((jv (s.2.2.1*s.2.2.2.1))*s.2.2.2.2)
 let thin:Int:=jv ((jv (o.2.2.1-o.2.2.2.1))*o.2.2.2.2.1)
 let Je:Int:=jv ((jv (o.2.2.1+o.2.2.2.1))*o.2.2.2.2.1)
 chk (Je !=0) (
 let wD:Int:=jv (Int.tdiv Vx Je)
 chk (thin !=0) (
 let Qs:Int:=jv (Int.tdiv (jv ((jv (Vx+thin))-1)) thin)
 some ((wD,Qs),0)))
def nJ(s:(List Int))(f:(Int→Option Bool)):Option (Int):=
 (vz (S:=Int) (R:=(Unit)⊕(Int)) (fun t=>
 bif decide (t<(s.length:Int))then
 chk (decide ((0:Int)≤t)&&decide (t<(s.length:Int))) (
 (f (jt 0 s t)).bind fun(jQ:Bool)=>
 bif jQ then
 Option.map Sum.inr (Option.map Sum.inr (
 some t))
 else
 some (.inl (jv (t+1))))
 else
 some (.inr (.inl ()))) 0).bind fun j=>match j with
 |.inl _=>(
 some (-1))
 |.inr r=>some r
def iO(s:(List Int))(f:(Int→Option Bool)):Option (Bool):=
 (nJ s f).bind fun(t:Int)=>
 some (decide (t≥0))
def nN(n:Int)(x:Int):Option (Bool):=
 (Vt n 0 x).bind fun(t:Bool)=>
 some (!t)
def Ba(most:Int)(l:(List Int)):Option (Bool):=
 (iO l (fun x=>nN x most)).bind fun(t:Bool)=>
 some (!t)
def nG(r:Vv):Option (Int):=
 (Ba 7 [r.1]).bind fun(t:Bool)=>
 (bif t then
 (Ba 300000 [r.2.1,r.2.2.1,r.2.2.2.1]).bind fun(jQ:Bool)=>
 some jQ
 else some false).bind fun(c:Bool)=>
 (bif c then
 (Ba 99 [r.2.2.2.2.1]).bind fun(vb:Bool)=>
 some vb
 else some false).bind fun(ZV:Bool)=>
 (bif ZV then
 (Ba 70000 [r.2.2.2.2.2.1]).bind fun(vw:Bool)=>
 some vw
 else some false).bind fun(Xu:Bool)=>
 (bif Xu then
 (Ba 10000 [r.2.2.2.2.2.2.1,r.2.2.2.2.2.2.2.1,r.2.2.2.2.2.2.2.2]).bind fun(wq:Bool)=>
 some wq
 else some false).bind fun(F6:Bool)=>
 (Z1 F6 2).bind fun(wD:Int)=>
 some wD
def nQ(s:(List Ql))(f:(Ql→Option Bool)):Option (Int):=
 (vz (S:=Int) (R:=(Unit)⊕(Int)) (fun t=>
 bif decide (t<(s.length:Int))then
 chk (decide ((0:Int)≤t)&&decide (t<(s.length:Int))) (
 (f (jt (0,(0,(0,0))) s t)).bind fun(jQ:Bool)=>
 bif jQ then
 Option.map Sum.inr (Option.map Sum.inr (
 some t))
 else
 some (.inl (jv (t+1))))
 else
 some (.inr (.inl ()))) 0).bind fun j=>match j with
 |.inl _=>(
 some (-1))
 |.inr r=>some r
def nR(s:(List Ql))(f:(Ql→Option Bool)):Option (Bool):=
 (nQ s f).bind fun(t:Int)=>
 some (decide (t≥0))
def nv(x:Ql):Option (Bool):=
 (bV x.1).bind fun(t:Bool)=>
 (bif !t then some true else
 (ce x.2.1).bind fun(jQ:Bool)=>
 some (!jQ)).bind fun(c:Bool)=>
 (bif c then some true else
 (bU x.2.2.1).bind fun(vb:Bool)=>
 some (!vb)).bind fun(ZV:Bool)=>
 (bif ZV then some true else
 (Vt x.2.2.2 1 10000).bind fun(vw:Bool)=>
 some (!vw)).bind fun(Xu:Bool)=>
 some Xu
def bP(r:Vv)(l:(List Ql)):Option (Qk×Int):=
 (nR l (fun x=>nv x)).bind fun(t:Bool)=>
 (nG r).bind fun(jQ:Int)=>
 (Z1 (decide ((l.length:Int)>0)) 10).bind fun(vb:Int)=>
 (Z1 (decide ((l.length:Int)≤7)) 8).bind fun(vw:Int)=>
 (Z1 (!t) 2).bind fun(wq:Int)=>
 (Jb [jQ,vb,vw,wq]).bind fun(wD:Int)=>
 some ((r,l),wD)
def iG(count:Int):Option ((List Int)):=
 (vz (S:=(List Int)×Int) (R:=(List Int)) (fun s=>
 let out:(List Int):=s.1
 let t:Int:=s.2
 bif decide (t<count)then
 (app out [t]).bind fun(jQ:List Int)=>
 some (.inl (jQ,jv (t+1)))
 else
 some (.inr out)) ([],0)).bind fun(wh:(List Int))=>
 some wh
def C3(n:Int):Option (Int):=
 let t:Int:=Kn n (jv (0-n))
 some t
def iN(r:Qk)(jE:(List Int))(p:Int):Option ((Nat→Bool)):=
 chk (decide ((0:Int)≤0)&&decide ((0:Int)≤(jv (p+1)))&&decide ((jv (p+1))≤(jE.length:Int))) (
 (vz (S:=Int×Int) (R:=Int) (fun s=>
 let VJ:Int:=s.1
 let t:Int:=s.2
 bif decide (t<(List.length (List.drop (Int.toNat 0) (List.take (Int.toNat (jv (p+1))) jE)):Int))then
 chk (decide ((0:Int)≤t)&&decide (t<(List.length (List.drop (Int.toNat 0) (List.take (Int.toNat (jv (p+1))) jE)):Int))) (
 let i:Int:=jt 0 (List.drop (Int.toNat 0) (List.take (Int.toNat (jv (p+1))) jE)) t
 chk (decide ((0:Int)≤i)&&decide (i<(List.length r.2:Int))) (
 let VI:Int:=jv (VJ+((((jt (0,(0,(0,0))) r.2 i).2).2).2))
 some (.inl (VI,jv (t+1)))))
 else
 some (.inr VJ)) (0,0)).bind fun(VH:Int)=>
 chk (decide ((0:Int)≤0)&&decide ((0:Int)<5)) (
 let out:(Nat→Bool):=ZY (fun _=>false) 0 (decide (VH>r.1.2.2.2.2.2.1))
 bif (p==0)then
 some out
 else
 chk (decide ((0:Int)≤p)&&decide (p<(jE.length:Int))) (
 chk (decide ((0:Int)≤(jt 0 jE p))&&decide ((jt 0 jE p)<(List.length r.2:Int))) (
 chk (decide ((0:Int)≤(jv (p-1)))&&decide ((jv (p-1))<(jE.length:Int))) (
 chk (decide ((0:Int)≤(jt 0 jE (jv (p-1))))&&decide ((jt 0 jE (jv (p-1)))<(List.length r.2:Int))) (
 let x:Ql:=jt (0,(0,(0,0))) r.2 (jt 0 jE p)
 let y:Ql:=jt (0,(0,(0,0))) r.2 (jt 0 jE (jv (p-1)))
 (bif decide (p<r.1.1)then
 chk (decide ((0:Int)≤1)&&decide ((1:Int)<5)) (
 let wh:(Nat→Bool):=ZY out 1 (decide ((jv (x.1-y.1))<0))
 some wh)
 else
 chk (decide ((0:Int)≤1)&&decide ((1:Int)<5)) (
 let Y4:(Nat→Bool):=ZY out 1 (decide ((jv (x.1-y.1))>0))
 some Y4)).bind fun(VF:(Nat→Bool))=>
 (Vt (jv (x.1-y.1)) (jv (0-r.1.2.2.1)) r.1.2.1).bind fun(jQ:Bool)=>
 chk (decide ((0:Int)≤2)&&decide ((2:Int)<5)) (
 let VE:(Nat→Bool):=ZY VF 2 (!jQ)
 (C3 (jv (x.2.1-y.2.1))).bind fun(vb:Int)=>
 chk (decide ((0:Int)≤3)&&decide ((3:Int)<5)) (
 let Dd:(Nat→Bool):=ZY VE 3 (decide (vb>r.1.2.2.2.1))
 (C3 (jv (x.2.2.1-y.2.2.1))).bind fun(vw:Int)=>
 chk (decide ((0:Int)≤4)&&decide ((4:Int)<5)) (
 let Dc:(Nat→Bool):=ZY Dd 4 (decide (vw>r.1.2.2.2.2.1))
 some Dc)))))))))
def nA(s:(List Bool))(v:Bool):Option (Int):=
 (vz (S:=Int) (R:=(Unit)⊕(Int)) (fun t=>
 bif decide (t<(s.length:Int))then
 chk (decide ((0:Int)≤t)&&decide (t<(s.length:Int))) (
 bif (v==(jt false s t))then
 Option.map Sum.inr (Option.map Sum.inr (
 some t))
 else
 some (.inl (jv (t+1))))
 else
 some (.inr (.inl ()))) 0).bind fun j=>match j with
 |.inl _=>(
 some (-1))
 |.inr r=>some r
def iM(s:(List Bool))(v:Bool):Option (Bool):=
 (nA s v).bind fun(t:Int)=>
 some (decide (t≥0))
def vW(s:(List Int))(v:Int):Option (Int):=
 (vz (S:=Int) (R:=(Unit)⊕(Int)) (fun t=>
 bif decide (t<(s.length:Int))then
 chk (decide ((0:Int)≤t)&&decide (t<(s.length:Int))) (
 bif (v==(jt 0 s t))then
 Option.map Sum.inr (Option.map Sum.inr (
 some t))
 else
 some (.inl (jv (t+1))))
 else
 some (.inr (.inl ()))) 0).bind fun j=>match j with
 |.inl _=>(
 some (-1))
 |.inr r=>some r
def jS(s:(List Int))(v:Int):Option (Bool):=
 (vW s v).bind fun(t:Int)=>
 some (decide (t≥0))
def JX{α β:Type}(f:α→Option (List β)):List α→Option (List β)
 |[]=>some []
 |a::l=>(f a).bind fun x=>(JX f l).bind fun y=>some (x++y)
def mo(r:Qk)(begun:List Int):Option Bool:=
 bif decide ((begun.length:Int)>0)then(iN r begun (jv ((begun.length:Int)-1))).bind fun v=>iM ((List.range 5).map v) true else some false
def CC(r:Qk)(wv:List Int):Nat→List Int→Option (List (List Int))
 |m,begun=>(mo r begun).bind fun fS=>bif fS then some []else bif ((begun.length:Int)==(wv.length:Int))then some [begun]else match m with
  |0=>none
  |m+1=>JX (fun i=>(jS begun i).bind fun t=>bif t then some []else CC r wv m (begun++[i])) wv
def iQ(r:Qk)(wv:List Int):Option (List (List Int)):=bif decide (wv.length≤1000)then CC r wv (wv.length+1) []else none
def z40(r:Qk)(a:Int)(b:Int):Option (Int):=
 chk (decide ((0:Int)≤a)&&decide (a<(List.length r.2:Int))) (
 chk (decide ((0:Int)≤b)&&decide (b<(List.length r.2:Int))) (
 let x:Ql:=jt (0,(0,(0,0))) r.2 a
 let y:Ql:=jt (0,(0,(0,0))) r.2 b
 (C3 (jv (x.1-y.1))).bind fun(t:Int)=>
 (C3 (jv (x.2.1-y.2.1))).bind fun(jQ:Int)=>
 (C3 (jv (x.2.2.1-y.2.2.1))).bind fun(vb:Int)=>
 let vw:Int:=jv ((jv ((jv (r.1.2.2.2.2.2.2.1*t))+(jv (r.1.2.2.2.2.2.2.2.1*jQ))))+(jv (r.1.2.2.2.2.2.2.2.2*vb)))
 some vw))
def C8(r:Qk)(jE:(List Int)):Option (Int):=
 (vz (S:=Int×Int) (R:=Int) (fun s=>
 let Jh:Int:=s.1
 let p:Int:=s.2
 bif decide (p<(jE.length:Int))then
 chk (decide ((0:Int)≤(jv (p-1)))&&decide ((jv (p-1))<(jE.length:Int))) (
 chk (decide ((0:Int)≤p)&&decide (p<(jE.length:Int))) (
 (z40 r (jt 0 jE (jv (p-1))) (jt 0 jE p)).bind fun(t:Int)=>
 some (.inl (jv (Jh+t),jv (p+1)))))
 else
 some (.inr Jh)) (0,1)).bind fun(ZN:Int)=>
 some ZN
def iV(x:Qk)(s:List Int)(b:Option (List Int×Int)):Option (Option (List Int×Int)):=
 (C8 x s).bind fun n=>match b with
  |none=>some (some (s,n))
  |some c=>chk (!c.1.isEmpty) (bif decide (n<c.2)then some (some (s,n))else some (some c))
def iU(x:Qk):List (List Int)→Option (List Int×Int)→Option (Option (List Int×Int))
 |[],b=>some b
 |s::cs,b=>(iV x s b).bind fun d=>iU x cs d
def nz(r:Vv)(l:List Ql):Option (List Int×Int×Int):=
 (bP r l).bind fun x=>bif x.2 !=0 then some ([],0,x.2)else
 (iG (l.length:Int)).bind fun ns=>(iQ x.1 ns).bind fun cs=>(iU x.1 cs none).bind fun b=>match b with
 |none=>some ([],0,12)
 |some c=>chk (!c.1.isEmpty) (some (c.1,c.2,0))
def nE(n:Int):Option (Bool):=
 (Vt n (-10000) 10000).bind fun(t:Bool)=>
 some (!t)
def bZ(x:List Int):Option (List Int):=bif decide (x.length≤1000000)then some (x.mergeSort fun a b=>decide (a≤b))else none
def iJ(x:List Int):Option (List Int):=bif decide (x.length≤1000000)then some x else none
def nH(r:Qk)(jX:(List Int)):Option (Int):=
 (vz (S:=(List Int)×Int) (R:=Int) (fun s=>
 let Wh:(List Int):=s.1
 let Jh:Int:=s.2
 bif decide ((Wh.length:Int)<(List.length r.2:Int))then
 (vz (S:=Int×Int×Int) (R:=Int×Int) (fun Qq=>
 let next:Int:=Qq.1
 let Jo:Int:=Qq.2.1
 let t:Int:=Qq.2.2
 bif decide (t<(Wh.length:Int))then
 chk (decide ((0:Int)≤t)&&decide (t<(Wh.length:Int))) (
 (vz (S:=Int×Int×Int) (R:=Int×Int) (fun Xg=>
 let YE:Int:=Xg.1
 let Zo:Int:=Xg.2.1
 let jQ:Int:=Xg.2.2
 bif decide (jQ<(List.length r.2:Int))then
 (z40 r (jt 0 Wh t) jQ).bind fun(vb:Int)=>
 chk (decide ((0:Int)≤(jt 0 Wh t))&&decide ((jt 0 Wh t)<(jX.length:Int))) (
 chk (decide ((0:Int)≤jQ)&&decide (jQ<(jX.length:Int))) (
 let n:Int:=jv ((jv (vb-(jt 0 jX (jt 0 Wh t))))-(jt 0 jX jQ))
 (jS Wh jQ).bind fun(vw:Bool)=>
 (bif ((!vw)&&((decide (YE<0))||(decide (n<Zo))))then
 some (jQ,n)
 else
 some (YE,Zo)).bind fun(j:Int×Int)=>
 let H0:Int:=j.1
 let Wf:Int:=j.2
 some (.inl (H0,Wf,jv (jQ+1)))))
 else
 some (.inr (YE,Zo))) (next,Jo,0)).bind fun(b:Int×Int)=>
 let HZ:Int:=b.1
 let We:Int:=b.2
 some (.inl (HZ,We,jv (t+1))))
 else
 some (.inr (next,Jo))) ((-1),0,0)).bind fun(DZ:Int×Int)=>
 let HY:Int:=DZ.1
 let Wd:Int:=DZ.2
 (app Wh [HY]).bind fun(wq:List Int)=>
 let ZN:Int:=jv (Jh+Wd)
 some (.inl (wq,ZN))
 else
 some (.inr Jh)) ([0],0)).bind fun(VB:Int)=>
 some VB
def nw(r:Vv)(l:(List Ql))(jX:(List Int)):Option (Int×Int):=
 (bP r l).bind fun(K9:Qk×Int)=>
 (iO jX (fun x=>nE x)).bind fun(t:Bool)=>
 (Z1 ((jX.length:Int)==(l.length:Int)) 10).bind fun(jQ:Int)=>
 (Z1 (!t) 2).bind fun(vb:Int)=>
 (Jb [K9.2,jQ,vb]).bind fun(vw:Int)=>
 bif (vw !=0)then
 some (0,vw)
 else
 bif ((l.length:Int)==1)then
 some (0,0)
 else
 (vz (S:=Int×Int) (R:=Int) (fun s=>
 let Jh:Int:=s.1
 let wq:Int:=s.2
 bif decide (wq<(jX.length:Int))then
 chk (decide ((0:Int)≤wq)&&decide (wq<(jX.length:Int))) (
 let ZN:Int:=jv (Jh+(jv (2*(jt 0 jX wq))))
 some (.inl (ZN,jv (wq+1))))
 else
 some (.inr Jh)) (0,0)).bind fun(VB:Int)=>
 (iJ jX).bind fun(wD:(List Int))=>
 (bZ wD).bind fun(Qs:(List Int))=>
 chk (decide ((0:Int)≤(jv ((Qs.length:Int)-2)))&&decide (((jv ((Qs.length:Int)-2)):Int)≤(Qs.length:Int))&&decide ((Qs.length:Int)≤(Qs.length:Int))) (
 let top:(List Int):=List.drop (Int.toNat (jv ((Qs.length:Int)-2))) (List.take (Int.toNat (Qs.length:Int)) Qs)
 (nH K9.1 jX).bind fun(Vz:Int)=>
 chk (decide ((0:Int)≤0)&&decide (0<(top.length:Int))) (
 chk (decide ((0:Int)≤1)&&decide (1<(top.length:Int))) (
 let HU:Int:=jv ((jv ((jv (Vz+VB))-(jt 0 top 0)))-(jt 0 top 1))
 some (HU,0))))
def lU(a:(List Int))(b:(List Int)):Option (Bool):=
 bif ((a.length:Int)!=(b.length:Int))then
 some false
 else
 (vz (S:=Int) (R:=(Unit)⊕(Bool)) (fun i=>
 bif decide (i<(a.length:Int))then
 chk (decide ((0:Int)≤i)&&decide (i<(a.length:Int))) (
 chk (decide ((0:Int)≤i)&&decide (i<(b.length:Int))) (
 bif ((jt 0 a i)!=(jt 0 b i))then
 Option.map Sum.inr (Option.map Sum.inr (
 some false))
 else
 some (.inl (jv (i+1)))))
 else
 some (.inr (.inl ()))) 0).bind fun j=>match j with
 |.inl _=>(
 some true)
 |.inr r=>some r
def AJ(y:(List (List js))):Option (Int×Int):=
 (Z1 (decide ((y.length:Int)>0)) 10).bind fun(t:Int)=>
 (Z1 (decide ((y.length:Int)≤4)) 8).bind fun(jQ:Int)=>
 (Jb [t,jQ]).bind fun(vb:Int)=>
 bif (vb !=0)then
 some (0,vb)
 else
 (vz (S:=Int×(List (js×Bool))) (R:=((List (js×Bool)))⊕(Int×Int)) (fun s=>
 let vw:Int:=s.1
 let wq:(List (js×Bool)):=s.2
 bif decide (vw<(y.length:Int))then
 chk (decide ((0:Int)≤vw)&&decide (vw<(y.length:Int))) (
 bif decide ((List.length (jt [] y vw):Int)>6)then
 Option.map Sum.inr (Option.map Sum.inr (
 some (vw,8)))
 else
 (vz (S:=Int×(List (js×Bool))) (R:=((List (js×Bool)))⊕((Int×(List (js×Bool)))⊕(((List (js×Bool)))⊕(Int×Int)))) (fun Qq=>
 let wD:Int:=Qq.1
 let Qs:(List (js×Bool)):=Qq.2
 bif decide (wD<(List.length (jt [] y vw):Int))then
 chk (decide ((0:Int)≤wD)&&decide (wD<(List.length (jt [] y vw):Int))) (
 let name:js:=jt ByteArray.empty (jt [] y vw) wD
 (GU name).bind fun(Vz:Bool)=>
 (Z1 Vz 4).bind fun(HU:Int)=>
 (Z1 (!(wK .str .bool Qs name)) 5).bind fun(Er:Int)=>
 (Jb [HU,Er]).bind fun(YZ:Int)=>
 bif (YZ !=0)then
 Option.map Sum.inr (Option.map Sum.inr (
 Option.map Sum.inr (Option.map Sum.inr (
 some (vw,YZ)))))
 else
 let VA:(List (js×Bool)):=ZP .str .bool Qs name true
 some (.inl (jv (wD+1),VA)))
 else
 some (.inr (.inl Qs))) (0,wq)).bind fun j=>match j with
 |.inl K7=>(
 some (.inl (jv (vw+1),K7)))
 |.inr r=>some r)
 else
 some (.inr (.inl wq))) (0,[])).bind fun j=>match j with
 |.inl K6=>(
 (Z1 (decide ((K6.length:Int)≤8)) 8).bind fun(HV:Int)=>
 some (0,HV))
 |.inr r=>some r
def slices_Clone_string(x:List js):Option (List js):=app [] x
def ca(y:(List (List js))):Option ((List (List js))):=
 (vz (S:=(List (List js))×Int) (R:=(List (List js))) (fun s=>
 let out:(List (List js)):=s.1
 let t:Int:=s.2
 bif decide (t<(y.length:Int))then
 chk (decide ((0:Int)≤t)&&decide (t<(y.length:Int))) (
 (slices_Clone_string (jt [] y t)).bind fun(jQ:(List js))=>
 (app out [jQ]).bind fun(vb:List (List js))=>
 some (.inl (vb,jv (t+1))))
 else
 some (.inr out)) ([],0)).bind fun(wh:(List (List js)))=>
 some wh
def bX(y:(List (List js))):Option ((List (List js))×Int):=
 (AJ y).bind fun(r:Int×Int)=>
 (ca y).bind fun(t:(List (List js)))=>
 some (t,r.2)
def iP(s:(List (List js)))(f:((List js)→Option Bool)):Option (Int):=
 (vz (S:=Int) (R:=(Unit)⊕(Int)) (fun t=>
 bif decide (t<(s.length:Int))then
 chk (decide ((0:Int)≤t)&&decide (t<(s.length:Int))) (
 (f (jt [] s t)).bind fun(jQ:Bool)=>
 bif jQ then
 Option.map Sum.inr (Option.map Sum.inr (
 some t))
 else
 some (.inl (jv (t+1))))
 else
 some (.inr (.inl ()))) 0).bind fun j=>match j with
 |.inl _=>(
 some (-1))
 |.inr r=>some r
def AL(s:(List (List js)))(f:((List js)→Option Bool)):Option (Bool):=
 (iP s f).bind fun(t:Int)=>
 some (decide (t≥0))
def jR(s:(List js))(v:js):Option (Int):=
 (vz (S:=Int) (R:=(Unit)⊕(Int)) (fun t=>
 bif decide (t<(s.length:Int))then
 chk (decide ((0:Int)≤t)&&decide (t<(s.length:Int))) (
 bif jO v (jt ByteArray.empty s t)then
 Option.map Sum.inr (Option.map Sum.inr (
 some t))
 else
 some (.inl (jv (t+1))))
 else
 some (.inr (.inl ()))) 0).bind fun j=>match j with
 |.inl _=>(
 some (-1))
 |.inr r=>some r
def jM(s:(List js))(v:js):Option (Bool):=
 (jR s v).bind fun(t:Int)=>
 some (decide (t≥0))
def ck(pile:(List js))(x:js):Option (Bool):=
 (jM pile x).bind fun(t:Bool)=>
 some t
def C7(y:(List (List js)))(request:(List js)):Option ((List (List js))×Int):=
 (bX y).bind fun(r:(List (List js))×Int)=>
 bif (r.2 !=0)then
 some ([],r.2)
 else
 (vz (S:=Int) (R:=(Unit)⊕((List (List js))×Int)) (fun t=>
 bif decide (t<(request.length:Int))then
 chk (decide ((0:Int)≤t)&&decide (t<(request.length:Int))) (
 let name:js:=jt ByteArray.empty request t
 (AL y (fun x=>ck x name)).bind fun(jQ:Bool)=>
 (Z1 (!(!jQ)) 6).bind fun(vb:Int)=>
 chk (decide ((0:Int)≤0)&&decide ((0:Int)≤t)&&decide (t≤(request.length:Int))) (
 (jM (List.drop (Int.toNat 0) (List.take (Int.toNat t) request)) name).bind fun(vw:Bool)=>
 (Z1 (!vw) 23).bind fun(wq:Int)=>
 (Jb [vb,wq]).bind fun(wD:Int)=>
 bif (wD !=0)then
 Option.map Sum.inr (Option.map Sum.inr (
 some ([],wD)))
 else
 some (.inl (jv (t+1)))))
 else
 some (.inr (.inl ()))) 0).bind fun j=>match j with
 |.inl _=>(
 some (r.1,0))
 |.inr r=>some r
def z24(s:(List js))(f:(js→Option Bool)):Option (Int):=
 (vz (S:=Int) (R:=(Unit)⊕(Int)) (fun t=>
 bif decide (t<(s.length:Int))then
 chk (decide ((0:Int)≤t)&&decide (t<(s.length:Int))) (
 (f (jt ByteArray.empty s t)).bind fun(jQ:Bool)=>
 bif jQ then
 Option.map Sum.inr (Option.map Sum.inr (
 some t))
 else
 some (.inl (jv (t+1))))
 else
 some (.inr (.inl ()))) 0).bind fun j=>match j with
 |.inl _=>(
 some (-1))
 |.inr r=>some r
def Be(s:(List js))(f:(js→Option Bool)):Option (Bool):=
 (z24 s f).bind fun(t:Int)=>
 some (decide (t≥0))
def iC(request:(List js))(name:js)(K5:js):Option (Bool):=
 (jR request name).bind fun(t:Int)=>
 (bif decide (t<0)then some true else
 (jR request K5).bind fun(jQ:Int)=>
 some (decide (t>jQ))).bind fun(c:Bool)=>
 some c
def Bd(below:js)(x:(List js))(Bf:js):Option (Bool):=
 (jM x below).bind fun(t:Bool)=>
 (bif t then
 (iC x Bf below).bind fun(jQ:Bool)=>
 some jQ
 else some false).bind fun(c:Bool)=>
 some c
def Bc(y:(List (List js)))(request:(List js)):Option ((List js)):=
 (vz (S:=(List js)×Int) (R:=(List js)) (fun s=>
 let out:(List js):=s.1
 let t:Int:=s.2
 bif decide (t<(y.length:Int))then
 chk (decide ((0:Int)≤t)&&decide (t<(y.length:Int))) (
 (vz (S:=(List js)×Int) (R:=(List js)) (fun Qq=>
 let wh:(List js):=Qq.1
 let jQ:Int:=Qq.2
 bif decide (jQ<(List.length (jt [] y t):Int))then
 chk (decide ((0:Int)≤jQ)&&decide (jQ<(List.length (jt [] y t):Int))) (
 let name:js:=jt ByteArray.empty (jt [] y t) jQ
 chk (decide ((0:Int)≤0)&&decide ((0:Int)≤jQ)&&decide (jQ≤(List.length (jt [] y t):Int))) (
 (Be (List.drop (Int.toNat 0) (List.take (Int.toNat jQ) (jt [] y t))) (fun x=>Bd x request name)).bind fun(vb:Bool)=>
 (bif vb then
 (app wh [name]).bind fun(vw:List js)=>
 some vw
 else
 some wh).bind fun(Y4:(List js))=>
 some (.inl (Y4,jv (jQ+1)))))
 else
 some (.inr wh)) (out,0)).bind fun(VF:(List js))=>
 some (.inl (VF,jv (t+1))))
 else
 some (.inr out)) ([],0)).bind fun(VE:(List js))=>
 some VE
def nD(y:(List (List js)))(request:(List js)):Option ((List js)×Int):=
 (C7 y request).bind fun(r:(List (List js))×Int)=>
 bif (r.2 !=0)then
 some ([],r.2)
 else
 (Bc r.1 request).bind fun(t:(List js))=>
 some (t,0)
def CP(a:(List js))(b:(List js)):Option (Bool):=
 bif ((a.length:Int)!=(b.length:Int))then
 some false
 else
 (vz (S:=Int) (R:=(Unit)⊕(Bool)) (fun i=>
 bif decide (i<(a.length:Int))then
 chk (decide ((0:Int)≤i)&&decide (i<(a.length:Int))) (
 chk (decide ((0:Int)≤i)&&decide (i<(b.length:Int))) (
 bif !jO (jt ByteArray.empty a i) (jt ByteArray.empty b i)then
 Option.map Sum.inr (Option.map Sum.inr (
 some false))
 else
 some (.inl (jv (i+1)))))
 else
 some (.inr (.inl ()))) 0).bind fun j=>match j with
 |.inl _=>(
 some true)
 |.inr r=>some r
def strings_Split(s Yr:js):Option (List js):=lR Yr s
def strconv_Itoa(n:Int):Option js:=bif decide ((-9223372036854775808:Int)≤n)&&decide (n≤9223372036854775807)then some ⟨(Lib.itoa n).toArray⟩else none
def strconv_Atoi(s:js):Option (Int×Bool):=Pr s
def iF(s:js):Option (Int×Bool):=
 (strconv_Atoi s).bind fun(r:Int×Bool)=>
 (bif (r.2&&(decide (r.1≥0)))then
 (strconv_Itoa r.1).bind fun(t:js)=>
 some (jO t s)
 else some false).bind fun(c:Bool)=>
 let jQ:Bool:=(c&&(decide ((ByteArray.size s:Int)≤6)))
 some (r.1,jQ)
def wo(ws:List js)(i:Int):js:=if i<(ws.length:Int)then jt ByteArray.empty ws i else ByteArray.empty
def CV(ws:List js)(i:Int):Option (Option Int):=(iF (wo ws i)).bind fun r=>some (bif r.2 then some r.1 else none)
def SB(us:List (js×Int))(w:js):Option Int:=(us.find? fun p=>jO w p.1).map (·.2)
def WG(us:List (js×Int))(ws:List js)(i:Int):Option Int:=if i<(ws.length:Int)then SB us (wo ws i)else none
def El(us:List (js×Int))(ws:List js)(i:Int):Option (Int⊕Int):=
 (CV ws i).bind fun n=>match n with
  |none=>some (.inl i)
  |some n=>match WG us ws (i+1)with
   |none=>some (.inl (i+1))
   |some b=>some (.inr (jv (n*b)))
def D8:List (js×Int):=[(bytes [117,109],1),(bytes [109,109],1000)]
def EZ:List (js×Int):=[(bytes [109,109],1)]
def HT:List (js×Int):=[(bytes [116,111],10)]
def cJ:List (js×Int):=[(bytes [67],10)]
def TX(k:Nat)(ws:List js)(o:vn)(i:Int):Option (Int⊕(vn×Int)):=
 match k with
 |0=>(CV ws i).bind fun n=>match n with
  |none=>some (.inl i)
  |some n=>some (.inr ((o.1,(n,o.2.2)),i+1))
 |1=>(El D8 ws i).bind fun v=>match v with
  |.inl j=>some (.inl j)
  |.inr v=>some (.inr ((o.1,(o.2.1,(v,o.2.2.2))),i+2))
 |2=>(El D8 ws i).bind fun v=>match v with
  |.inl j=>some (.inl j)
  |.inr v=>some (.inr ((o.1,(o.2.1,(o.2.2.1,(v,o.2.2.2.2)))),i+2))
 |3=>(El EZ ws i).bind fun v=>match v with
  |.inl j=>some (.inl j)
  |.inr v=>some (.inr ((o.1,(o.2.1,(o.2.2.1,(o.2.2.2.1,(v,o.2.2.2.2.2))))),i+2))
 | 4=>(El HT ws i).bind fun v=>match v with
  |.inl j=>some (.inl j)
  |.inr v=>(El cJ ws (i+2)).bind fun u=>match u with
   |.inl j=>some (.inl j)
   |.inr u=>some (.inr ((o.1,(o.2.1,(o.2.2.1,(o.2.2.2.1,(o.2.2.2.2.1,((v,u),o.2.2.2.2.2.2)))))),i+4))
 |_=>(CV ws i).bind fun n=>match n with
  |none=>some (.inl i)
  |some n=>some (.inr ((o.1,(o.2.1,(o.2.2.1,(o.2.2.2.1,(o.2.2.2.2.1,(o.2.2.2.2.2.1,n)))))),i+1))
def il:List js:=[bytes [103,114,97,100,101],bytes [116,104,105,99,107,110,101,115,115],bytes [116,111,108,101,114,97,110,99,101],bytes [119,105,100,116,104],bytes [99,111,105,108,105,110,103],bytes [100,117,101]]
def Fw(w:js):Option Nat:=il.findIdx? fun c=>jO c w
def bG(ws:List js):Nat→vn→Int→(Nat→Bool)→Option ((Int×Int)⊕(vn×(Nat→Bool)))
 |0,_,_,_=>none
 | n+1,o,i,given=>if i<(ws.length:Int)then match Fw (wo ws i)with
   |none=>some (.inl (i,7))
   |some k=>bif given k then some (.inl (i,23))else(TX k ws o (i+1)).bind fun r=>match r with
    |.inl j=>some (.inl (j,7))
    |.inr r=>bG ws n r.1 r.2 (vH given k true)
  else some (.inr (o,given))
def Yv:vn:=(ByteArray.empty,(0,(0,(0,(0,((0,0),0))))))
def iK(s:js):Option (vn×Int×Int):=
 (strings_Split s (bytes [32])).bind fun ws=>(GU (wo ws 0)).bind fun is=>bif !is then some (Yv,0,7)else
  (bG ws (ws.length+1) (wo ws 0,(0,(0,(0,(0,((0,20000),0)))))) 1 (fun _=>false)).bind fun r=>match r with
   |.inl f=>some (Yv,f.1,f.2)
   |.inr r=>bif !(r.2 0&&r.2 1&&r.2 3)then some (Yv,0,14)else(EY r.1).bind fun e=>bif e !=0 then some (Yv,0,e)else some (r.1,0,0)
def l5:Option ((List (List js))):=
 let t:(List (List js)):=[[(bytes [97]),(bytes [98]),(bytes [99])],[(bytes [100])],[]]
 some t
def gN:Option (Vv):=
 some (2,(100,(150,(1000,(2,(5000,(1,(0,10))))))))
def gM:Option ((List Ql)):=
 let t:(List Ql):=[(1200,(3000,(5,1000))),(1100,(2500,(4,1000))),(1050,(3400,(6,2000)))]
 some t
def bB:Option (Bool):=
 (iK (bytes [97,45,49,32,119,105,100,116,104,32,49,50,48,48,32,109,109,32,116,104,105,99,107,110,101,115,115,32,51,32,109,109,32,103,114,97,100,101,32,53,32,116,111,108,101,114,97,110,99,101,32,53,48,32,117,109,32,100,117,101,32,49,50])).bind fun(r:vn×Int×Int)=>
 (z59 ((bytes [115]),(5,(200000,(1250,8000)))) r.1).bind fun(K9:Z0×Int)=>
 (l5).bind fun(t:(List (List js)))=>
 (nD t [(bytes [97]),(bytes [99])]).bind fun(AT:(List js)×Int)=>
 (gN).bind fun(jQ:Vv)=>
 (gM).bind fun(vb:(List Ql))=>
 (nz jQ vb).bind fun(Cn:(List Int)×Int×Int)=>
 (gN).bind fun(vw:Vv)=>
 (gM).bind fun(wq:(List Ql))=>
 (nw vw wq [0,20,0]).bind fun(AS:Int×Int)=>
 (bif ((r.2.2==0)&&(K9.2==0))then
 some (Ty.eqb wP K9.1 (546448,564972))
 else some false).bind fun(c:Bool)=>
 (bif (c&&(AT.2==0))then
 (CP AT.1 [(bytes [98]),(bytes [99])]).bind fun(wD:Bool)=>
 some wD
 else some false).bind fun(ZV:Bool)=>
 (bif (ZV&&(Cn.2.2==0))then
 (lU Cn.1 [1,0,2]).bind fun(Qs:Bool)=>
 some Qs
 else some false).bind fun(Xu:Bool)=>
 let Vz:Bool:=(((Xu&&(Cn.2.1==270))&&(AS.2==0))&&(AS.1==160))
 some Vz
def As(n:Int)(lo:Int)(hi:Int):Option (Bool):=
 let t:Bool:=((decide (lo≤n))&&(decide (n≤hi)))
 some t
def gY(s:js):Option (Bool):=
 bif ((decide ((ByteArray.size s:Int)<1))||(decide ((ByteArray.size s:Int)>12)))then
 some false
 else
 (vz (S:=Int) (R:=(Unit)⊕(Bool)) (fun i=>
 bif decide (i<(ByteArray.size s:Int))then
 chk (decide ((0:Int)≤i)&&decide (i<(ByteArray.size s:Int))) (
 let dB:Bool:=(((decide ((Xk s i)≥97))&&(decide ((Xk s i)≤122)))||((decide ((Xk s i)≥65))&&(decide ((Xk s i)≤90))))
 bif ((!dB)&&((i==0)||(((Xk s i)!=45)&&((decide ((Xk s i)<48))||(decide ((Xk s i)>57))))))then
 Option.map Sum.inr (Option.map Sum.inr (
 some false))
 else
 some (.inl (jv (i+1))))
 else
 some (.inr (.inl ()))) 0).bind fun j=>match j with
 |.inl _=>(
 some true)
 |.inr r=>some r
end Go.Lift
end
