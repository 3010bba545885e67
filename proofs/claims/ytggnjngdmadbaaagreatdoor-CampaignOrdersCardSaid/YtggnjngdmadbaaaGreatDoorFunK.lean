/-
  Each function's code computes the plain function, by the kernel.
-/
import Derived.Test.YtggnjngdmadbaaaGreatDoorFunT
set_option linter.unusedSectionVars false
set_option linter.unusedVariables false
set_option linter.unusedSimpArgs false
namespace Go.Lift
open Go Go.Proofs
theorem zrh (l : (List Int)) : funK (cx [] []) Tryz.f80 zi9 [(.slice (.int .i64))] [(.int .i64)] l = z1t l := by kernel_rfl
theorem zo6 (n : Int) : funK (cx [] [z17]) Tryz.f122 zfu [(.int .i64)] [.bool] n = z2s n := by kernel_rfl
theorem zk1 (o : z01) : funK (cx [] [z2e, z1z, z17, z88, z78, z55, z77, zgd]) Tryz.f58 zct [z0i] [(.int .i64)] o = z13 o := by kernel_rfl
theorem zj2 (s : (List Int)) (f : (Int → Option Bool)) : funK (cx [] []) Tryz.f144 zbu [(.slice (.int .i64)), (.fn (.int .i64) .bool)] [(.int .i64)] (s, f) = z2x s f := by kernel_rfl
theorem zk0 (r : z02) : funK (cx [] [z1z, zat]) Tryz.f51 zcs [z06] [(.int .i64)] r = z2q r := by kernel_rfl
theorem zsf (r : z02) (l : (List z00)) : funK (cx [] [z7w, z2e, z1z, z4o, zgc]) Tryz.f83 zji [z06, (.slice z03)] [z0a, (.int .i64)] (r, l) = z3t r l := by kernel_rfl
theorem zms (s : (List Bool)) (v : Bool) : funK (cx [] []) Tryz.f212 zek [(.slice .bool), .bool] [(.int .i64)] (s, v) = z5i s v := by kernel_rfl
theorem zjy (r : z05) (a : Int) (b : Int) : funK (cx [] [ze7]) Tryz.f143 zcq [z0a, (.int .i64), (.int .i64)] [(.int .i64)] (r, a, b) = z2b r a b := by kernel_rfl
theorem zo7 (r : z02) (l : (List z00)) (prices : (List Int)) : funK (cx [] [z2e, z1z, z7h, z5x, zdk, z2z, z2y, zcd]) Tryz.f26 zfv [z06, (.slice z03), (.slice (.int .i64))] [(.int .i64), (.int .i64)] (r, l, prices) = z3d r l prices := by kernel_rfl
theorem zmt (y : (List (List ByteArray))) : funK (cx [] [zdj, zcc]) Tryz.f100 zel [(.slice (.slice .str))] [(.slice (.slice .str)), (.int .i64)] y = z6w y := by kernel_rfl
theorem zha (s : (List ByteArray)) (v : ByteArray) : funK (cx [] [z7t]) Tryz.f152 za6 [(.slice .str), .str] [.bool] (s, v) = slices_Contains_string s v := by kernel_rfl
theorem zbt (s : (List ByteArray)) (f : (ByteArray → Option Bool)) : funK (cx [] [z71]) Tryz.f153 z69 [(.slice .str), (.fn .str .bool)] [.bool] (s, f) = z2a s f := by kernel_rfl
theorem zl8 (y : (List (List ByteArray))) (request : (List ByteArray)) : funK (cx [] [zbb, z9w]) Tryz.f40 ze4 [(.slice (.slice .str)), (.slice .str)] [(.slice .str), (.int .i64)] (y, request) = z68 y request := by kernel_rfl
theorem y40  : funK (cx [] []) Tryz.f76 zvo [] [z06] () = zm3 := by kernel_rfl
theorem y22 (s : ByteArray) : funK (cx [] []) Tryz.f78 zs2 [.str] [.bool] s = zi4 s := by kernel_rfl
end Go.Lift
namespace Go.Lift
open Go Go.Proofs
theorem zpy (is : Bool) (e : Int) : funK (cx [] []) Tryz.f81 zgr [.bool, (.int .i64)] [(.int .i64)] (is, e) = z0l is e := by kernel_rfl
theorem zj6 (n : Int) : funK (cx [] [z17]) Tryz.f123 zby [(.int .i64)] [.bool] n = z1s n := by kernel_rfl
theorem zl6 (s : z09) : funK (cx [] [z2e, z1z, z17, z88, z78, z55, z77]) Tryz.f63 ze2 [z0o] [(.int .i64)] s = z36 s := by kernel_rfl
theorem zg7 (s : (List Int)) (f : (Int → Option Bool)) : funK (cx [] [zb9]) Tryz.f87 z9k [(.slice (.int .i64)), (.fn (.int .i64) .bool)] [.bool] (s, f) = z1y s f := by kernel_rfl
theorem zal (s : (List z00)) (f : (z00 → Option Bool)) : funK (cx [] []) Tryz.f180 z5u [(.slice z03), (.fn z03 .bool)] [(.int .i64)] (s, f) = z1l s f := by kernel_rfl
theorem zo4 (count : Int) : funK (cx [] []) Tryz.f85 zfs [(.int .i64)] [(.slice (.int .i64))] count = z3v count := by kernel_rfl
theorem zj3 (s : (List Bool)) (v : Bool) : funK (cx [] [zeg]) Tryz.f182 zbv [(.slice .bool), .bool] [.bool] (s, v) = z2h s v := by kernel_rfl
theorem zj4 (r : z05) (sequence : (List Int)) : funK (cx [] [z7u]) Tryz.f86 zbw [z0a, (.slice (.int .i64))] [(.int .i64)] (r, sequence) = z19 r sequence := by kernel_rfl
theorem y7q (a : (List Int)) (b : (List Int)) : funK (cx [] []) Tryz.f32 zy0 [(.slice (.int .i64)), (.slice (.int .i64))] [.bool] (a, b) = zlb a b := by kernel_rfl
theorem zg6 (s : (List (List ByteArray))) (f : ((List ByteArray) → Option Bool)) : funK (cx [] []) Tryz.f188 z9j [(.slice (.slice .str)), (.fn (.slice .str) .bool)] [(.int .i64)] (s, f) = z3s s f := by kernel_rfl
theorem zhc (pile : (List ByteArray)) (x : ByteArray) : funK (cx [] [z4d]) Tryz.f151 za8 [(.slice .str), (.ptr .str)] [.bool] (pile, x) = z40 pile x := by kernel_rfl
theorem zrg (request : (List ByteArray)) (name : ByteArray) (than : ByteArray) : funK (cx [] [z7t]) Tryz.f155 zi8 [(.slice .str), .str, .str] [.bool] (request, name, than) = za4 request name than := by kernel_rfl
theorem y42 (a : (List ByteArray)) (b : (List ByteArray)) : funK (cx [] []) Tryz.f46 zvq [(.slice .str), (.slice .str)] [.bool] (a, b) = zq5 a b := by kernel_rfl
theorem y41  : funK (cx [] []) Tryz.f77 zvp [] [(.slice z03)] () = zm4 := by kernel_rfl
theorem zzd (n : Int) : funK (cx [] [z5b]) Tryz.f79 zq7 [(.int .i64)] [.bool] n = zav n := by kernel_rfl
end Go.Lift
namespace Go.Lift
open Go Go.Proofs
theorem zpx (n : Int) (lo : Int) (hi : Int) : funK (cx [] []) Tryz.f89 zgq [(.int .i64), (.int .i64), (.int .i64)] [.bool] (n, lo, hi) = z0w n lo hi := by kernel_rfl
theorem zo5 (n : Int) : funK (cx [] [z17]) Tryz.f124 zft [(.int .i64)] [.bool] n = z2r n := by kernel_rfl
theorem zrf (s : z09) (o : z01) : funK (cx [] [z17]) Tryz.f82 zi7 [z0o, z0i] [.bool] (s, o) = z5h s o := by kernel_rfl
theorem zg9 (n : Int) (x : Int) : funK (cx [] [z17]) Tryz.f110 z9m [(.int .i64), (.ptr (.int .i64))] [.bool] (n, x) = z2v n x := by kernel_rfl
theorem z9b (s : (List z00)) (f : (z00 → Option Bool)) : funK (cx [] [z5o]) Tryz.f139 z4s [(.slice z03), (.fn z03 .bool)] [.bool] (s, f) = z11 s f := by kernel_rfl
theorem zse (n : Int) : funK (cx [] []) Tryz.f183 zjh [(.int .i64)] [(.int .i64)] n = z4h n := by kernel_rfl
theorem zo2 (s : (List Int)) (v : Int) : funK (cx [] []) Tryz.f177 zfq [(.slice (.int .i64)), (.int .i64)] [(.int .i64)] (s, v) = slices_Index_int s v := by kernel_rfl
theorem zl7 (n : Int) : funK (cx [] [z17]) Tryz.f88 ze3 [(.int .i64)] [.bool] n = z4r n := by kernel_rfl
theorem zl5 (y : (List (List ByteArray))) : funK (cxM [] [z2e, z1z, z88]) Tryz.f37 ze1 [(.slice (.slice .str))] [(.int .i64), (.int .i64)] y = z67 y := by kernel_rfl
theorem zec (s : (List (List ByteArray))) (f : ((List ByteArray) → Option Bool)) : funK (cx [] [z9f]) Tryz.f150 z7p [(.slice (.slice .str)), (.fn (.slice .str) .bool)] [.bool] (s, f) = z2w s f := by kernel_rfl
theorem zj5 (y : (List (List ByteArray))) (request : (List ByteArray)) : funK (cx [] [z2e, z1z, zeh, z7g, z9x, z4d]) Tryz.f103 zbx [(.slice (.slice .str)), (.slice .str)] [(.slice (.slice .str)), (.int .i64)] (y, request) = z52 y request := by kernel_rfl
theorem zfn (below : ByteArray) (x : (List ByteArray)) (x_1 : ByteArray) : funK (cx [] [z4d, zhj]) Tryz.f154 z8v [.str, (.ptr (.slice .str)), (.ptr .str)] [.bool] (below, x, x_1) = z3k below x x_1 := by kernel_rfl
theorem zq0 (s : ByteArray) : funK (cx [] [z5m, z5n]) Tryz.f127 zgt [.str] [(.int .i64), .bool] s = z6x s := by kernel_rfl
theorem y3z  : funK (cx [] [z7v, z1i, z79, zqj, zdl, zti, z2j, zwr, ztg, zth]) Tryz.f15 zvn [] [.bool] () = z7b := by kernel_rfl
theorem y43 (n : Int) (by_ : Int) : funK (cx [] []) Tryz.f96 zvr [(.int .i64), (.int .i64)] [(.int .i64)] (n, by_) = zmb n by_ := by kernel_rfl
end Go.Lift
namespace Go.Lift
open Go Go.Proofs
theorem zq1 (s : ByteArray) : funK (cx [] [z17]) Tryz.f99 zgu [.str] [.bool] s = z29 s := by kernel_rfl
theorem zq2 (n : Int) : funK (cx [] [z17]) Tryz.f125 zgv [(.int .i64)] [.bool] n = z5t n := by kernel_rfl
theorem zjz (s : z09) (o : z01) : funK (cx [] [z7x, z8k, z2e, z1z, zcx]) Tryz.f19 zcr [z0o, z0i] [z0r, (.int .i64)] (s, o) = z2p s o := by kernel_rfl
theorem zi1 (most : Int) (l : (List Int)) : funK (cx [] [z5x, z9g]) Tryz.f109 zb2 [(.int .i64), (.slice (.int .i64))] [.bool] (most, l) = z1d most l := by kernel_rfl
theorem zpz (x : z00) : funK (cx [] [z17, z78, z55, z77]) Tryz.f140 zgs [z03] [.bool] x = z6v x := by kernel_rfl
theorem zg8 (r : z05) (sequence : (List Int)) (p : Int) : funK (cx [] [z17, ze7]) Tryz.f181 z9l [z0a, (.slice (.int .i64)), (.int .i64)] [(.arr 5 .bool)] (r, sequence, p) = z1a r sequence p := by kernel_rfl
theorem zju (s : (List Int)) (v : Int) : funK (cx [] [zf6]) Tryz.f133 zcm [(.slice (.int .i64)), (.int .i64)] [.bool] (s, v) = slices_Contains_int s v := by kernel_rfl
theorem zjx (r : z05) (prices : (List Int)) : funK (cx [] [z5w, z7u]) Tryz.f92 zcp [z0a, (.slice (.int .i64))] [(.int .i64)] (r, prices) = z3h r prices := by kernel_rfl
theorem zjw (y : (List (List ByteArray))) : funK (cx [] [z2i]) Tryz.f148 zco [(.slice (.slice .str))] [(.slice (.slice .str))] y = z5s y := by kernel_rfl
theorem zjt (s : (List ByteArray)) (v : ByteArray) : funK (cx [] []) Tryz.f189 zcl [(.slice .str), .str] [(.int .i64)] (s, v) = slices_Index_string s v := by kernel_rfl
theorem zdy (s : (List ByteArray)) (f : (ByteArray → Option Bool)) : funK (cx [] []) Tryz.f190 z73 [(.slice .str), (.fn .str .bool)] [(.int .i64)] (s, f) = z2n s f := by kernel_rfl
theorem zhb (y : (List (List ByteArray))) (request : (List ByteArray)) : funK (cx [] [z64, z8i]) Tryz.f104 za7 [(.slice (.slice .str)), (.slice .str)] [(.slice .str)] (y, request) = z3z y request := by kernel_rfl
theorem y7o  : funK (cx [] []) Tryz.f75 zxy [] [(.slice (.slice .str))] () = zuk := by kernel_rfl
theorem y21 (n : Int) (lo : Int) (hi : Int) : funK (cx [] []) Tryz.f20 zs1 [(.int .i64), (.int .i64), (.int .i64)] [.bool] (n, lo, hi) = z1q n lo hi := by kernel_rfl
theorem zwf (o : z01) : funK (cx [] [z5b, zk7, zeo]) Tryz.f17 zn8 [z0i] [(.int .i64)] o = zff o := by kernel_rfl
end Go.Lift
