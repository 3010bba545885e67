/-
  Each function's code computes the plain function, by the kernel.
-/
import Derived.Test.YtggnjngdmadbaaaGreatDoorFunT
set_option linter.unusedSectionVars false
set_option linter.unusedVariables false
set_option linter.unusedSimpArgs false
namespace Go.Lift
open Go Go.Proofs
theorem zpl(l:(List Int)):funK (cx [] []) Tryz.f80 zh5 [(.slice (.int .i64))] [(.int .i64)] l=z1e l:=by kernel_rfl
theorem zmq(n:Int):funK (cx [] [z15]) Tryz.f122 zew [(.int .i64)] [.bool] n=z4k n:=by kernel_rfl
theorem ziv(o:z00):funK (cx [] [z2b,z1g,z15,z7i,z6m,z4w,z6l,zff]) Tryz.f58 zbw [z16] [(.int .i64)] o=z1k o:=by kernel_rfl
theorem zhy(s:(List Int))(f:(Int→Option Bool)):funK (cx [] []) Tryz.f144 zb0 [(.slice (.int .i64)),(.fn (.int .i64) .bool)] [(.int .i64)] (s,f)=z4p s f:=by kernel_rfl
theorem ziu(r:z0f):funK (cx [] [z1g,za0]) Tryz.f51 zbv [z0r] [(.int .i64)] r=z5f r:=by kernel_rfl
theorem zqi(r:z0f)(l:(List z03)):funK (cx [] [zbi,z2b,z1g,z4f,zfe]) Tryz.f83 zic [z0r,(.slice z09)] [z0h,(.int .i64)] (r,l)=z6r r l:=by kernel_rfl
theorem zlf(s:(List Bool))(v:Bool):funK (cx [] []) Tryz.f212 zdp [(.slice .bool),.bool] [(.int .i64)] (s,v)=z65 s v:=by kernel_rfl
theorem zis(r:z04)(a:Int)(b:Int):funK (cx [] [zd8]) Tryz.f143 zbt [z0h,(.int .i64),(.int .i64)] [(.int .i64)] (r,a,b)=z44 r a b:=by kernel_rfl
theorem zms(r:z0f)(l:(List z03))(prices:(List Int)):funK (cx [] [z2b,z1g,zd9,z5i,zcj,z4r,z4q,zbf]) Tryz.f26 zey [z0r,(.slice z09),(.slice (.int .i64))] [(.int .i64),(.int .i64)] (r,l,prices)=z6x r l prices:=by kernel_rfl
theorem zlh(y:(List (List ByteArray))):funK (cx [] [zcg,zbe]) Tryz.f100 zdr [(.slice (.slice .str))] [(.slice (.slice .str)),(.int .i64)] y=z2u y:=by kernel_rfl
theorem zgg(s:(List ByteArray))(v:ByteArray):funK (cx [] [z77]) Tryz.f152 z9d [(.slice .str),.str] [.bool] (s,v)=slices_Contains_string s v:=by kernel_rfl
theorem zax(s:(List ByteArray))(f:(ByteArray→Option Bool)):funK (cx [] [z6h]) Tryz.f153 z5u [(.slice .str),(.fn .str .bool)] [.bool] (s,f)=z0p s f:=by kernel_rfl
theorem zjy(y:(List (List ByteArray)))(request:(List ByteArray)):funK (cx [] [z4v,z97]) Tryz.f40 zd7 [(.slice (.slice .str)),(.slice .str)] [(.slice .str),(.int .i64)] (y,request)=z35 y request:=by kernel_rfl
theorem y2f:funK (cx [] []) Tryz.f76 ztp [] [z0r] ()=zkp:=by kernel_rfl
theorem zzy(s:ByteArray):funK (cx [] []) Tryz.f78 zq7 [.str] [.bool] s=zh2 s:=by kernel_rfl
theorem zod(is:Bool)(e:Int):funK (cx [] []) Tryz.f81 zfx [.bool,(.int .i64)] [(.int .i64)] (is,e)=z0c is e:=by kernel_rfl
theorem zi2(n:Int):funK (cx [] [z15]) Tryz.f123 zb4 [(.int .i64)] [.bool] n=z2y n:=by kernel_rfl
theorem zjv(s:z1m):funK (cx [] [z2b,z1g,z15,z7i,z6m,z4w,z6l]) Tryz.f63 zd4 [z26] [(.int .i64)] s=z5r s:=by kernel_rfl
theorem zf9(s:(List Int))(f:(Int→Option Bool)):funK (cx [] [zag]) Tryz.f87 z8u [(.slice (.int .i64)),(.fn (.int .i64) .bool)] [.bool] (s,f)=z2r s f:=by kernel_rfl
theorem z9t(s:(List z03))(f:(z03→Option Bool)):funK (cx [] []) Tryz.f180 z5g [(.slice z09),(.fn z09 .bool)] [(.int .i64)] (s,f)=z1t s f:=by kernel_rfl
theorem zmo(count:Int):funK (cx [] []) Tryz.f85 zeu [(.int .i64)] [(.slice (.int .i64))] count=z5n count:=by kernel_rfl
theorem zhz(s:(List Bool))(v:Bool):funK (cx [] [zdj]) Tryz.f182 zb1 [(.slice .bool),.bool] [.bool] (s,v)=z3p s v:=by kernel_rfl
theorem zi0(r:z04)(sequence:(List Int)):funK (cx [] [z79]) Tryz.f86 zb2 [z0h,(.slice (.int .i64))] [(.int .i64)] (r,sequence)=z1x r sequence:=by kernel_rfl
theorem y6d(a:(List Int))(b:(List Int)):funK (cx [] []) Tryz.f32 zvz [(.slice (.int .i64)),(.slice (.int .i64))] [.bool] (a,b)=ztj a b:=by kernel_rfl
theorem zf8(s:(List (List ByteArray)))(f:((List ByteArray)→Option Bool)):funK (cx [] []) Tryz.f188 z8t [(.slice (.slice .str)),(.fn (.slice .str) .bool)] [(.int .i64)] (s,f)=z2q s f:=by kernel_rfl
theorem zgi(pile:(List ByteArray))(x:ByteArray):funK (cx [] [z49]) Tryz.f151 z9f [(.slice .str),(.ptr .str)] [.bool] (pile,x)=z2d pile x:=by kernel_rfl
theorem zpk(request:(List ByteArray))(name:ByteArray)(than:ByteArray):funK (cx [] [z77]) Tryz.f155 zh4 [(.slice .str),.str,.str] [.bool] (request,name,than)=z74 request name than:=by kernel_rfl
theorem y2h(a:(List ByteArray))(b:(List ByteArray)):funK (cx [] []) Tryz.f46 ztr [(.slice .str),(.slice .str)] [.bool] (a,b)=zol a b:=by kernel_rfl
theorem y2g:funK (cx [] []) Tryz.f77 ztq [] [(.slice z09)] ()=zkq:=by kernel_rfl
theorem zoc(n:Int)(lo:Int)(hi:Int):funK (cx [] []) Tryz.f89 zfw [(.int .i64),(.int .i64),(.int .i64)] [.bool] (n,lo,hi)=z0m n lo hi:=by kernel_rfl
theorem zmp(n:Int):funK (cx [] [z15]) Tryz.f124 zev [(.int .i64)] [.bool] n=z4j n:=by kernel_rfl
theorem zpj(s:z1m)(o:z00):funK (cx [] [z15]) Tryz.f82 zh3 [z26,z16] [.bool] (s,o)=z9c s o:=by kernel_rfl
theorem zfc(n:Int)(x:Int):funK (cx [] [z15]) Tryz.f110 z8x [(.int .i64),(.ptr (.int .i64))] [.bool] (n,x)=z3o n x:=by kernel_rfl
theorem z8k(s:(List z03))(f:(z03→Option Bool)):funK (cx [] [z5a]) Tryz.f139 z4h [(.slice z09),(.fn z09 .bool)] [.bool] (s,f)=z1j s f:=by kernel_rfl
theorem zqh(n:Int):funK (cx [] []) Tryz.f183 zib [(.int .i64)] [(.int .i64)] n=z50 n:=by kernel_rfl
theorem zmn(s:(List Int))(v:Int):funK (cx [] []) Tryz.f177 zet [(.slice (.int .i64)),(.int .i64)] [(.int .i64)] (s,v)=slices_Index_int s v:=by kernel_rfl
theorem zjx(n:Int):funK (cx [] [z15]) Tryz.f88 zd6 [(.int .i64)] [.bool] n=z5s n:=by kernel_rfl
theorem zju(y:(List (List ByteArray))):funK (cxM [] [z2b,z1g,z7i]) Tryz.f37 zd3 [(.slice (.slice .str))] [(.int .i64),(.int .i64)] y=z1i y:=by kernel_rfl
theorem zdd(s:(List (List ByteArray)))(f:((List ByteArray)→Option Bool)):funK (cx [] [z8o]) Tryz.f150 z6y [(.slice (.slice .str)),(.fn (.slice .str) .bool)] [.bool] (s,f)=z1b s f:=by kernel_rfl
theorem zi1(y:(List (List ByteArray)))(request:(List ByteArray)):funK (cx [] [z2b,z1g,zdl,z6s,z98,z49]) Tryz.f103 zb3 [(.slice (.slice .str)),(.slice .str)] [(.slice (.slice .str)),(.int .i64)] (y,request)=z1y y request:=by kernel_rfl
theorem zes(below:ByteArray)(x:(List ByteArray))(x_1:ByteArray):funK (cx [] [z49,zgq]) Tryz.f154 z86 [.str,(.ptr (.slice .str)),(.ptr .str)] [.bool] (below,x,x_1)=z1a below x x_1:=by kernel_rfl
theorem zof(s:ByteArray):funK (cx [] [z7q,z7r]) Tryz.f127 zfz [.str] [(.int .i64),.bool] s=z6b s:=by kernel_rfl
theorem y2e:funK (cx [] [zbh,z3q,zed,zuq,z7u,zre,z3w,zup,zrc,zrd]) Tryz.f15 zto [] [.bool] ()=zhn:=by kernel_rfl
theorem zog(s:ByteArray):funK (cx [] [z15]) Tryz.f99 zg0 [.str] [.bool] s=z1o s:=by kernel_rfl
theorem zoh(n:Int):funK (cx [] [z15]) Tryz.f125 zg1 [(.int .i64)] [.bool] n=z6c n:=by kernel_rfl
theorem zit(s:z1m)(o:z00):funK (cx [] [zbj,zch,z2b,z1g,zgp]) Tryz.f19 zbu [z26,z16] [z0d,(.int .i64)] (s,o)=z5e s o:=by kernel_rfl
theorem zh1(most:Int)(l:(List Int)):funK (cx [] [z5i,z8q]) Tryz.f109 za7 [(.int .i64),(.slice (.int .i64))] [.bool] (most,l)=z1p most l:=by kernel_rfl
theorem zoe(x:z03):funK (cx [] [z15,z6m,z4w,z6l]) Tryz.f140 zfy [z09] [.bool] x=z83 x:=by kernel_rfl
theorem zfb(r:z04)(sequence:(List Int))(p:Int):funK (cx [] [z15,zd8]) Tryz.f181 z8w [z0h,(.slice (.int .i64)),(.int .i64)] [(.arr 5 .bool)] (r,sequence,p)=z2t r sequence p:=by kernel_rfl
theorem zio(s:(List Int))(v:Int):funK (cx [] [zea]) Tryz.f133 zbq [(.slice (.int .i64)),(.int .i64)] [.bool] (s,v)=slices_Contains_int s v:=by kernel_rfl
theorem zir(r:z04)(prices:(List Int)):funK (cx [] [z78,z79]) Tryz.f92 zbs [z0h,(.slice (.int .i64))] [(.int .i64)] (r,prices)=z5d r prices:=by kernel_rfl
theorem ziq(y:(List (List ByteArray))):funK (cx [] [z3v]) Tryz.f148 zbr [(.slice (.slice .str))] [(.slice (.slice .str))] y=z2n y:=by kernel_rfl
theorem zin(s:(List ByteArray))(v:ByteArray):funK (cx [] []) Tryz.f189 zbp [(.slice .str),.str] [(.int .i64)] (s,v)=slices_Index_string s v:=by kernel_rfl
theorem zd0(s:(List ByteArray))(f:(ByteArray→Option Bool)):funK (cx [] []) Tryz.f190 z6k [(.slice .str),(.fn .str .bool)] [(.int .i64)] (s,f)=z1z s f:=by kernel_rfl
theorem zgh(y:(List (List ByteArray)))(request:(List ByteArray)):funK (cx [] [z5o,z7s]) Tryz.f104 z9e [(.slice (.slice .str)),(.slice .str)] [(.slice .str)] (y,request)=z1l y request:=by kernel_rfl
theorem y6c:funK (cx [] []) Tryz.f75 zvy [] [(.slice (.slice .str))] ()=zsn:=by kernel_rfl
end Go.Lift
