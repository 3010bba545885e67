/-
  Each function's code computes the plain function, by the kernel.
-/
import Derived.Test.YtbmclapepgfjhaaGreatFunT
set_option linter.unusedSectionVars false
set_option linter.unusedVariables false
set_option linter.unusedSimpArgs false
namespace Go.Lift
open Go Go.Proofs
theorem zm8 (l : (List Int)) : funK (cx [] []) Tryz.f40 zf6 [(.slice (.int .i64))] [(.int .i64)] l = z1i l := by kernel_rfl
theorem zl8 (n : Int) (lo : Int) (hi : Int) : funK (cx [] []) Tryz.f39 ze4 [(.int .i64), (.int .i64), (.int .i64)] [.bool] (n, lo, hi) = z0t n lo hi := by kernel_rfl
theorem zla (x : z02) : funK (cx [] [z1h, zcf, z93, zcg]) Tryz.f63 ze6 [z0a] [.bool] x = z6m x := by kernel_rfl
theorem zf4 (most : Int) (l : (List Int)) : funK (cx [] [z4g, z78]) Tryz.f95 z8t [(.int .i64), (.slice (.int .i64))] [.bool] (most, l) = z1b most l := by kernel_rfl
theorem zmz (n : Int) : funK (cx [] []) Tryz.f99 zg5 [(.int .i64)] [(.int .i64)] n = z40 n := by kernel_rfl
theorem zjp (s : (List Int)) (v : Int) : funK (cx [] []) Tryz.f75 zcy [(.slice (.int .i64)), (.int .i64)] [(.int .i64)] (s, v) = slices_Index_int s v := by kernel_rfl
theorem zhj (n : Int) : funK (cx [] [z1h]) Tryz.f38 zb7 [(.int .i64)] [.bool] n = z4o n := by kernel_rfl
theorem zgj (y : (List (List ByteArray))) : funK (cx [] [z60]) Tryz.f88 za3 [(.slice (.slice .str))] [(.slice (.slice .str))] y = z25 y := by kernel_rfl
theorem zdf (s : (List (List ByteArray))) (f : ((List ByteArray) → Option Bool)) : funK (cx [] []) Tryz.f105 z7b [(.slice (.slice .str)), (.fn (.slice .str) .bool)] [(.int .i64)] (s, f) = z26 s f := by kernel_rfl
theorem zeo (pile : (List ByteArray)) (x : ByteArray) : funK (cx [] [z3d]) Tryz.f81 z82 [(.slice .str), (.ptr .str)] [.bool] (pile, x) = z1q pile x := by kernel_rfl
theorem zm7 (request : (List ByteArray)) (name : ByteArray) (than : ByteArray) : funK (cx [] [z5y]) Tryz.f92 zf5 [(.slice .str), .str, .str] [.bool] (request, name, than) = z5x request name than := by kernel_rfl
theorem zwq (a : (List ByteArray)) (b : (List ByteArray)) : funK (cx [] []) Tryz.f31 zpj [(.slice .str), (.slice .str)] [.bool] (a, b) = zlg a b := by kernel_rfl
theorem zpa (y : (List (List ByteArray))) : funK (cx [] [z94, zmd]) Tryz.f52 zho [(.slice (.slice .str))] [(.int .i64), (.int .i64)] y = z6i y := by kernel_rfl
theorem zdj (n : Int) (x : (List (List ByteArray))) : funK (cx [] [z1h]) Tryz.f87 z7f [(.int .i64), (.ptr (.slice (.slice .str)))] [.bool] (n, x) = z2w n x := by kernel_rfl
theorem zpb (l : (List ByteArray)) : funK (cx [] []) Tryz.f24 zhp [(.slice .str)] [(.slice .str)] l = z30 l := by kernel_rfl
theorem zq6 (l : (List z0e)) : funK (cx [] []) Tryz.f26 zj3 [(.slice z00)] [(.slice z00)] l = zcn l := by kernel_rfl
end Go.Lift
namespace Go.Lift
open Go Go.Proofs
theorem zl9 (is : Bool) (e : Int) : funK (cx [] []) Tryz.f41 ze5 [.bool, (.int .i64)] [(.int .i64)] (is, e) = z0d is e := by kernel_rfl
theorem zjr (n : Int) : funK (cx [] [z1h]) Tryz.f64 zd0 [(.int .i64)] [.bool] n = z5r n := by kernel_rfl
theorem zfu (s : (List Int)) (f : (Int → Option Bool)) : funK (cx [] []) Tryz.f71 z9e [(.slice (.int .i64)), (.fn (.int .i64) .bool)] [(.int .i64)] (s, f) = z3r s f := by kernel_rfl
theorem zgm (r : z0i) : funK (cx [] [z1r, z8m]) Tryz.f67 za6 [z0p] [(.int .i64)] r = z4d r := by kernel_rfl
theorem zdk (r : z03) (sequence : (List Int)) (p : Int) : funK (cx [] [z1h, zba]) Tryz.f97 z7g [z0c, (.slice (.int .i64)), (.int .i64)] [(.arr 5 .bool)] (r, sequence, p) = z2a r sequence p := by kernel_rfl
theorem zgi (s : (List Int)) (v : Int) : funK (cx [] [zcd]) Tryz.f47 za2 [(.slice (.int .i64)), (.int .i64)] [.bool] (s, v) = slices_Contains_int s v := by kernel_rfl
theorem zgk (r : z03) (prices : (List Int)) : funK (cx [] [z5z, z61]) Tryz.f44 za4 [z0c, (.slice (.int .i64))] [(.int .i64)] (r, prices) = z4c r prices := by kernel_rfl
theorem zlb (s : ByteArray) : funK (cx [] [z1h]) Tryz.f110 ze7 [.str] [.bool] s = z3i s := by kernel_rfl
theorem zbf (s : (List (List ByteArray))) (f : ((List ByteArray) → Option Bool)) : funK (cx [] [z71]) Tryz.f80 z5u [(.slice (.slice .str)), (.fn (.slice .str) .bool)] [.bool] (s, f) = z0y s f := by kernel_rfl
theorem zfx (y : (List (List ByteArray))) (request : (List ByteArray)) : funK (cx [] [z36, z1r, zbk, z5m, z7v, z3d]) Tryz.f53 z9h [(.slice (.slice .str)), (.slice .str)] [(.slice (.slice .str)), (.int .i64)] (y, request) = z1f y request := by kernel_rfl
theorem zcv (below : ByteArray) (x : (List ByteArray)) (x_1 : ByteArray) : funK (cx [] [z3d, zet]) Tryz.f91 z6n [.str, (.ptr (.slice .str)), (.ptr .str)] [.bool] (below, x, x_1) = z0x below x x_1 := by kernel_rfl
theorem zdi  : funK (cx [] [z50, zci, zqf, z6g, znq]) Tryz.f5 z7e [] [.bool] () = z1l := by kernel_rfl
theorem zsn (y : (List (List ByteArray))) : funK (cx [] [zgo]) Tryz.f19 zli [(.slice (.slice .str))] [(.int .i64)] y = z8o y := by kernel_rfl
theorem zf3 (y : (List (List ByteArray))) (m : z0e) : funK (cx [] [z36, z1r, z77]) Tryz.f55 z8s [(.slice (.slice .str)), z00] [(.int .i64)] (y, m) = z0w y m := by kernel_rfl
theorem zq5 (y : (List (List ByteArray))) : funK (cx [] [zcj]) Tryz.f23 zj2 [(.slice (.slice .str))] [(.slice (.slice .str))] y = z4a y := by kernel_rfl
theorem zf2 (y : (List (List ByteArray))) (name : ByteArray) : funK (cx [] [z94]) Tryz.f29 z8r [(.slice (.slice .str)), .str] [.bool] (y, name) = z1a y name := by kernel_rfl
end Go.Lift
namespace Go.Lift
open Go Go.Proofs
theorem z8e (s : (List z02)) (f : (z02 → Option Bool)) : funK (cx [] []) Tryz.f94 z4e [(.slice z0a), (.fn z0a .bool)] [(.int .i64)] (s, f) = z1d s f := by kernel_rfl
theorem zfy (n : Int) : funK (cx [] [z1h]) Tryz.f65 z9i [(.int .i64)] [.bool] n = z3u n := by kernel_rfl
theorem zdg (s : (List Int)) (f : (Int → Option Bool)) : funK (cx [] [z91]) Tryz.f37 z7c [(.slice (.int .i64)), (.fn (.int .i64) .bool)] [.bool] (s, f) = z27 s f := by kernel_rfl
theorem zn0 (r : z0i) (l : (List z02)) : funK (cx [] [z36, z1r, z3k, zdn, z9x]) Tryz.f33 zg6 [z0p, (.slice z0a)] [z0c, (.int .i64)] (r, l) = z5l r l := by kernel_rfl
theorem zio (s : (List Bool)) (v : Bool) : funK (cx [] []) Tryz.f111 zbp [(.slice .bool), .bool] [(.int .i64)] (s, v) = z52 s v := by kernel_rfl
theorem zgl (r : z03) (a : Int) (b : Int) : funK (cx [] [zba]) Tryz.f70 za5 [z0c, (.int .i64), (.int .i64)] [(.int .i64)] (r, a, b) = z39 r a b := by kernel_rfl
theorem zju (r : z0i) (l : (List z02)) (prices : (List Int)) : funK (cx [] [zbb, z4g, zaq, z36, z1r, z7k, z7j, z9w]) Tryz.f10 zd3 [z0p, (.slice z0a), (.slice (.int .i64))] [(.int .i64), (.int .i64)] (r, l, prices) = z5t r l prices := by kernel_rfl
theorem zhh (y : (List (List ByteArray))) : funK (cxM [] [z36, z1r, zdo]) Tryz.f93 zb5 [(.slice (.slice .str))] [(.int .i64), (.int .i64)] y = z15 y := by kernel_rfl
theorem zgh (s : (List ByteArray)) (v : ByteArray) : funK (cx [] []) Tryz.f106 za1 [(.slice .str), .str] [(.int .i64)] (s, v) = slices_Index_string s v := by kernel_rfl
theorem zb3 (s : (List ByteArray)) (f : (ByteArray → Option Bool)) : funK (cx [] []) Tryz.f109 z5h [(.slice .str), (.fn .str .bool)] [(.int .i64)] (s, f) = z1g s f := by kernel_rfl
theorem zen (y : (List (List ByteArray))) (request : (List ByteArray)) : funK (cx [] [z4x, z6d]) Tryz.f58 z81 [(.slice (.slice .str)), (.slice .str)] [(.slice .str)] (y, request) = z19 y request := by kernel_rfl
theorem zso (l : (List ByteArray)) (s : ByteArray) : funK (cx [] []) Tryz.f30 zlj [(.slice .str), .str] [.bool] (l, s) = z47 l s := by kernel_rfl
theorem zmy (y : (List (List ByteArray))) (request : (List ByteArray)) : funK (cx [] [z94]) Tryz.f20 zg4 [(.slice (.slice .str)), (.slice .str)] [(.int .i64)] (y, request) = z95 y request := by kernel_rfl
theorem zis (n : z2m) : funK (cx [] [z90]) Tryz.f85 zbs [z07] [.str] n = z3b n := by kernel_rfl
theorem ziq (y : (List (List ByteArray))) (pile : Int) : funK (cx [] []) Tryz.f56 zbq [(.slice (.slice .str)), (.int .i64)] [.str] (y, pile) = z45 y pile := by kernel_rfl
theorem zag (x : z4i) : funK (cx [] [z74, zkb, zg0, z73, zch, zit, zcj, zap, ziu, z6g, za9, z8k, z94]) Tryz.f4 z5b [z1j] [.bool] x = z1u x := by kernel_rfl
end Go.Lift
namespace Go.Lift
open Go Go.Proofs
theorem z6y (s : (List z02)) (f : (z02 → Option Bool)) : funK (cx [] [z49]) Tryz.f62 z3n [(.slice z0a), (.fn z0a .bool)] [.bool] (s, f) = z16 s f := by kernel_rfl
theorem zjs (n : Int) : funK (cx [] [z1h]) Tryz.f66 zd1 [(.int .i64)] [.bool] n = z5s n := by kernel_rfl
theorem zdl (n : Int) (x : Int) : funK (cx [] [z1h]) Tryz.f96 z7h [(.int .i64), (.ptr (.int .i64))] [.bool] (n, x) = z2x n x := by kernel_rfl
theorem zjq (count : Int) : funK (cx [] []) Tryz.f35 zcz [(.int .i64)] [(.slice (.int .i64))] count = z4l count := by kernel_rfl
theorem zfv (s : (List Bool)) (v : Bool) : funK (cx [] [zbi]) Tryz.f98 z9f [(.slice .bool), .bool] [.bool] (s, v) = z2y s v := by kernel_rfl
theorem zfw (r : z03) (sequence : (List Int)) : funK (cx [] [z61]) Tryz.f36 z9g [z0c, (.slice (.int .i64))] [(.int .i64)] (r, sequence) = z1e r sequence := by kernel_rfl
theorem zzv (a : (List Int)) (b : (List Int)) : funK (cx [] []) Tryz.f18 zre [(.slice (.int .i64)), (.slice (.int .i64))] [.bool] (a, b) = zph a b := by kernel_rfl
theorem zir (y : (List (List ByteArray))) : funK (cx [] [z9v, zao]) Tryz.f59 zbr [(.slice (.slice .str))] [(.slice (.slice .str)), (.int .i64)] y = z2b y := by kernel_rfl
theorem zem (s : (List ByteArray)) (v : ByteArray) : funK (cx [] [z5y]) Tryz.f82 z80 [(.slice .str), .str] [.bool] (s, v) = slices_Contains_string s v := by kernel_rfl
theorem z9s (s : (List ByteArray)) (f : (ByteArray → Option Bool)) : funK (cx [] [z5f]) Tryz.f90 z4z [(.slice .str), (.fn .str .bool)] [.bool] (s, f) = z0j s f := by kernel_rfl
theorem zhk (y : (List (List ByteArray))) (request : (List ByteArray)) : funK (cx [] [z3x, z7u]) Tryz.f27 zb8 [(.slice (.slice .str)), (.slice .str)] [(.slice .str), (.int .i64)] (y, request) = z2i y request := by kernel_rfl
theorem zup (s : ByteArray) : funK (cx [] []) Tryz.f79 zmr [.str] [.bool] s = zcx s := by kernel_rfl
theorem zdh (y : (List (List ByteArray))) : funK (cx [] []) Tryz.f21 z7d [(.slice (.slice .str))] [(.int .i64)] y = z1k y := by kernel_rfl
theorem zjt (y : (List (List ByteArray))) (request : (List ByteArray)) : funK (cx [] [z1r, z3x, z85]) Tryz.f22 zd2 [(.slice (.slice .str)), (.slice .str)] [(.slice z00), (.int .i64)] (y, request) = z2z y request := by kernel_rfl
theorem zhi (y : (List (List ByteArray))) (request : (List ByteArray)) (moves : (List z0e)) : funK (cx [] [z36, z1r, z3x, z8l, zbj, z6f]) Tryz.f25 zb6 [(.slice (.slice .str)), (.slice .str), (.slice z00)] [(.int .i64), (.int .i64)] (y, request, moves) = z3m y request moves := by kernel_rfl
end Go.Lift
