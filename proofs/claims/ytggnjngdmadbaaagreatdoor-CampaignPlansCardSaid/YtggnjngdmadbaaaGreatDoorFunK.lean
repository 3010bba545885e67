/-
  Each function's code computes the plain function, by the kernel.
-/
import Derived.Test.YtggnjngdmadbaaaGreatDoorFunT
set_option linter.all false
namespace Go.Lift
open Go Go.Proofs
theorem zq5(l:(List Int)):jU (cx [] []) Tryz.f80 zhb [(.slice (.int .i64))] [(.int .i64)] l=Jb l:=by kernel_rfl
theorem znc(n:Int):jU (cx [] [GX]) Tryz.f122 zf5 [(.int .i64)] [.bool] n=bU n:=by kernel_rfl
theorem zj2(o:vn):jU (cx [] [Cl,Ep,GX,uy,uz,uO,uB,zfp]) Tryz.f58 zbw [GV] [(.int .i64)] o=EY o:=by kernel_rfl
theorem zi4(s:(List Int))(f:(Int→Option Bool)):jU (cx [] []) Tryz.f144 zb2 [(.slice (.int .i64)),(.fn (.int .i64) .bool)] [(.int .i64)] (s,f)=nJ s f:=by kernel_rfl
theorem zj1(r:Vv):jU (cx [] [Ep,za1]) Tryz.f51 zbv [Jc] [(.int .i64)] r=nG r:=by kernel_rfl
theorem zr4(r:Vv)(l:(List Ql)):jU (cx [] [zbi,Cl,Ep,z4e,zfo]) Tryz.f83 zii [Jc,(.slice Yy)] [Xf,(.int .i64)] (r,l)=bP r l:=by kernel_rfl
theorem zlu(s:(List Bool))(v:Bool):jU (cx [] []) Tryz.f212 zdq [(.slice .bool),.bool] [(.int .i64)] (s,v)=nA s v:=by kernel_rfl
theorem ziz(r:Qk)(a:Int)(b:Int):jU (cx [] [RA]) Tryz.f143 zbt [Xf,(.int .i64),(.int .i64)] [(.int .i64)] (r,a,b)=z40 r a b:=by kernel_rfl
theorem zne(r:Vv)(l:(List Ql))(jX:(List Int)):jU (cx [] [Cl,Ep,Rz,Pk,zcl,uC,uE,zbg]) Tryz.f26 zf7 [Jc,(.slice Yy),(.slice (.int .i64))] [(.int .i64),(.int .i64)] (r,l,jX)=nw r l jX:=by kernel_rfl
theorem zlw(y:(List (List js))):jU (cx [] [zci,zbf]) Tryz.f100 zds [(.slice (.slice .str))] [(.slice (.slice .str)),(.int .i64)] y=bX y:=by kernel_rfl
theorem zgo(s:(List js))(v:js):jU (cx [] [R9]) Tryz.f152 z9g [(.slice .str),.str] [.bool] (s,v)=jM s v:=by kernel_rfl
theorem zb0(s:(List js))(f:(js→Option Bool)):jU (cx [] [z6j]) Tryz.f153 z5v [(.slice .str),(.fn .str .bool)] [.bool] (s,f)=Be s f:=by kernel_rfl
theorem zk8(y:(List (List js)))(request:(List js)):jU (cx [] [uP,z98]) Tryz.f40 zd9 [(.slice (.slice .str)),(.slice .str)] [(.slice .str),(.int .i64)] (y,request)=nD y request:=by kernel_rfl
theorem y3c:jU (cx [] []) Tryz.f76 Iv [] [Jc] ()=gN:=by kernel_rfl
theorem y0t(s:js):jU (cx [] []) Tryz.f78 zqr [.str] [.bool] s=gY s:=by kernel_rfl
theorem zp1(is:Bool)(e:Int):jU (cx [] []) Tryz.f81 zg6 [.bool,(.int .i64)] [(.int .i64)] (is,e)=Z1 is e:=by kernel_rfl
theorem zi8(n:Int):jU (cx [] [GX]) Tryz.f123 zb6 [(.int .i64)] [.bool] n=ce n:=by kernel_rfl
theorem zk5(s:En):jU (cx [] [Cl,Ep,GX,uy,uz,uO,uB]) Tryz.f63 zd6 [EX] [(.int .i64)] s=nF s:=by kernel_rfl
theorem zfj(s:(List Int))(f:(Int→Option Bool)):jU (cx [] [zak]) Tryz.f87 z8v [(.slice (.int .i64)),(.fn (.int .i64) .bool)] [.bool] (s,f)=iO s f:=by kernel_rfl
theorem z9u(s:(List Ql))(f:(Ql→Option Bool)):jU (cx [] []) Tryz.f180 z5b [(.slice Yy),(.fn Yy .bool)] [(.int .i64)] (s,f)=nQ s f:=by kernel_rfl
theorem zna(count:Int):jU (cx [] []) Tryz.f85 zf3 [(.int .i64)] [(.slice (.int .i64))] count=iG count:=by kernel_rfl
theorem zi5(s:(List Bool))(v:Bool):jU (cx [] [zdl]) Tryz.f182 zb3 [(.slice .bool),.bool] [.bool] (s,v)=iM s v:=by kernel_rfl
theorem zi6(r:Qk)(jE:(List Int)):jU (cx [] [R7]) Tryz.f86 zb4 [Xf,(.slice (.int .i64))] [(.int .i64)] (r,jE)=C8 r jE:=by kernel_rfl
theorem y7a(a:(List Int))(b:(List Int)):jU (cx [] []) Tryz.f32 LB [(.slice (.int .i64)),(.slice (.int .i64))] [.bool] (a,b)=lU a b:=by kernel_rfl
theorem zfi(s:(List (List js)))(f:((List js)→Option Bool)):jU (cx [] []) Tryz.f188 z8u [(.slice (.slice .str)),(.fn (.slice .str) .bool)] [(.int .i64)] (s,f)=iP s f:=by kernel_rfl
theorem zgq(pile:(List js))(x:js):jU (cx [] [uS]) Tryz.f151 z9i [(.slice .str),(.ptr .str)] [.bool] (pile,x)=ck pile x:=by kernel_rfl
theorem zq4(request:(List js))(name:js)(K5:js):jU (cx [] [R9]) Tryz.f155 zha [(.slice .str),.str,.str] [.bool] (request,name,K5)=iC request name K5:=by kernel_rfl
theorem y3e(a:(List js))(b:(List js)):jU (cx [] []) Tryz.f46 Is [(.slice .str),(.slice .str)] [.bool] (a,b)=CP a b:=by kernel_rfl
theorem y3d:jU (cx [] []) Tryz.f77 Iu [] [(.slice Yy)] ()=gM:=by kernel_rfl
theorem zp0(n:Int)(lo:Int)(hi:Int):jU (cx [] []) Tryz.f89 zg5 [(.int .i64),(.int .i64),(.int .i64)] [.bool] (n,lo,hi)=Vt n lo hi:=by kernel_rfl
theorem znb(n:Int):jU (cx [] [GX]) Tryz.f124 zf4 [(.int .i64)] [.bool] n=bV n:=by kernel_rfl
theorem zq3(s:En)(o:vn):jU (cx [] [GX]) Tryz.f82 zh9 [EX,GV] [.bool] (s,o)=nr s o:=by kernel_rfl
theorem zfm(n:Int)(x:Int):jU (cx [] [GX]) Tryz.f110 z8y [(.int .i64),(.ptr (.int .i64))] [.bool] (n,x)=nN n x:=by kernel_rfl
theorem z8k(s:(List Ql))(f:(Ql→Option Bool)):jU (cx [] [z55]) Tryz.f139 z4g [(.slice Yy),(.fn Yy .bool)] [.bool] (s,f)=nR s f:=by kernel_rfl
theorem zr3(n:Int):jU (cx [] []) Tryz.f183 zih [(.int .i64)] [(.int .i64)] n=C3 n:=by kernel_rfl
theorem zn8(s:(List Int))(v:Int):jU (cx [] []) Tryz.f177 zf1 [(.slice (.int .i64)),(.int .i64)] [(.int .i64)] (s,v)=vW s v:=by kernel_rfl
theorem zk7(n:Int):jU (cx [] [GX]) Tryz.f88 zd8 [(.int .i64)] [.bool] n=nE n:=by kernel_rfl
theorem zk4(y:(List (List js))):jU (cxM [] [Cl,Ep,uy]) Tryz.f37 zd5 [(.slice (.slice .str))] [(.int .i64),(.int .i64)] y=AJ y:=by kernel_rfl
theorem zdf(s:(List (List js)))(f:((List js)→Option Bool)):jU (cx [] [z8o]) Tryz.f150 z78 [(.slice (.slice .str)),(.fn (.slice .str) .bool)] [.bool] (s,f)=AL s f:=by kernel_rfl
theorem zi7(y:(List (List js)))(request:(List js)):jU (cx [] [Cl,Ep,zdn,z6w,z99,uS]) Tryz.f103 zb5 [(.slice (.slice .str)),(.slice .str)] [(.slice (.slice .str)),(.int .i64)] (y,request)=C7 y request:=by kernel_rfl
theorem zf0(below:js)(x:(List js))(Bf:js):jU (cx [] [uS,zgy]) Tryz.f154 z86 [.str,(.ptr (.slice .str)),(.ptr .str)] [.bool] (below,x,Bf)=Bd below x Bf:=by kernel_rfl
theorem zp3(s:js):jU (cx [] [Rv,Ru]) Tryz.f127 zg8 [.str] [(.int .i64),.bool] s=iF s:=by kernel_rfl
theorem y3b:jU (cx [] [zbh,nI,zen,Ii,zcm,U8,uN,Ij,IZ,IY]) Tryz.f15 Iw [] [.bool] ()=bB:=by kernel_rfl
theorem zp4(s:js):jU (cx [] [GX]) Tryz.f99 zg9 [.str] [.bool] s=GU s:=by kernel_rfl
theorem zp5(n:Int):jU (cx [] [GX]) Tryz.f125 zga [(.int .i64)] [.bool] n=iD n:=by kernel_rfl
theorem zj0(s:En)(o:vn):jU (cx [] [zbj,zcj,Cl,Ep,zgx]) Tryz.f19 zbu [EX,GV] [wP,(.int .i64)] (s,o)=z59 s o:=by kernel_rfl
theorem zh7(most:Int)(l:(List Int)):jU (cx [] [Pk,z8q]) Tryz.f109 zaa [(.int .i64),(.slice (.int .i64))] [.bool] (most,l)=Ba most l:=by kernel_rfl
theorem zp2(x:Ql):jU (cx [] [GX,uz,uO,uB]) Tryz.f140 zg7 [Yy] [.bool] x=nv x:=by kernel_rfl
theorem zfl(r:Qk)(jE:(List Int))(p:Int):jU (cx [] [GX,RA]) Tryz.f181 z8x [Xf,(.slice (.int .i64)),(.int .i64)] [(.arr 5 .bool)] (r,jE,p)=iN r jE p:=by kernel_rfl
theorem ziw(s:(List Int))(v:Int):jU (cx [] [zei]) Tryz.f133 zbq [(.slice (.int .i64)),(.int .i64)] [.bool] (s,v)=jS s v:=by kernel_rfl
theorem ziy(r:Qk)(jX:(List Int)):jU (cx [] [R8,R7]) Tryz.f92 zbs [Xf,(.slice (.int .i64))] [(.int .i64)] (r,jX)=nH r jX:=by kernel_rfl
theorem zix(y:(List (List js))):jU (cx [] [nM]) Tryz.f148 zbr [(.slice (.slice .str))] [(.slice (.slice .str))] y=ca y:=by kernel_rfl
theorem ziv(s:(List js))(v:js):jU (cx [] []) Tryz.f189 zbp [(.slice .str),.str] [(.int .i64)] (s,v)=jR s v:=by kernel_rfl
theorem zd2(s:(List js))(f:(js→Option Bool)):jU (cx [] []) Tryz.f190 z6n [(.slice .str),(.fn .str .bool)] [(.int .i64)] (s,f)=z24 s f:=by kernel_rfl
theorem zgp(y:(List (List js)))(request:(List js)):jU (cx [] [z5n,z7s]) Tryz.f104 z9h [(.slice (.slice .str)),(.slice .str)] [(.slice .str)] (y,request)=Bc y request:=by kernel_rfl
theorem y79:jU (cx [] []) Tryz.f75 LC [] [(.slice (.slice .str))] ()=l5:=by kernel_rfl
theorem y0s(n:Int)(lo:Int)(hi:Int):jU (cx [] []) Tryz.f20 zqq [(.int .i64),(.int .i64),(.int .i64)] [.bool] (n,lo,hi)=As n lo hi:=by kernel_rfl
end Go.Lift
