/-
  Each function's code computes the plain function, by the kernel.
-/
import Derived.Test.YtbmclapepgfjhaaGreatFunT
set_option linter.unusedSectionVars false
set_option linter.unusedVariables false
set_option linter.unusedSimpArgs false
namespace Go.Lift
open Go Go.Proofs
theorem zkq (l : (List Int)) : funK (cx [] []) Tryz.f40 zeb [(.slice (.int .i64))] [(.int .i64)] l = z1a l := by kernel_rfl
theorem zjn (n : Int) (lo : Int) (hi : Int) : funK (cx [] []) Tryz.f39 zd5 [(.int .i64), (.int .i64), (.int .i64)] [.bool] (n, lo, hi) = z0n n lo hi := by kernel_rfl
theorem zjp (x : z00) : funK (cx [] [z19, zbo, z8m, zbp]) Tryz.f63 zd7 [z04] [.bool] x = z5g x := by kernel_rfl
theorem ze7 (most : Int) (l : (List Int)) : funK (cx [] [z4i, z72]) Tryz.f95 z8e [(.int .i64), (.slice (.int .i64))] [.bool] (most, l) = z0t most l := by kernel_rfl
theorem zlc (n : Int) : funK (cx [] []) Tryz.f99 zf6 [(.int .i64)] [(.int .i64)] n = z3b n := by kernel_rfl
theorem zie (s : (List Int)) (v : Int) : funK (cx [] []) Tryz.f75 zc5 [(.slice (.int .i64)), (.int .i64)] [(.int .i64)] (s, v) = slices_Index_int s v := by kernel_rfl
theorem zgj (n : Int) : funK (cx [] [z19]) Tryz.f38 zap [(.int .i64)] [.bool] n = z3l n := by kernel_rfl
theorem zfl (y : (List (List ByteArray))) : funK (cx [] [z4h]) Tryz.f88 z9k [(.slice (.slice .str))] [(.slice (.slice .str))] y = z4d y := by kernel_rfl
theorem zcj (s : (List (List ByteArray))) (f : ((List ByteArray) → Option Bool)) : funK (cx [] []) Tryz.f105 z75 [(.slice (.slice .str)), (.fn (.slice .str) .bool)] [(.int .i64)] (s, f) = z2m s f := by kernel_rfl
theorem zdn (pile : (List ByteArray)) (x : ByteArray) : funK (cx [] [z38]) Tryz.f81 z7t [(.slice .str), (.ptr .str)] [.bool] (pile, x) = z33 pile x := by kernel_rfl
theorem zkp (request : (List ByteArray)) (name : ByteArray) (than : ByteArray) : funK (cx [] [z5y]) Tryz.f92 zea [(.slice .str), .str, .str] [.bool] (request, name, than) = z7q request name than := by kernel_rfl
theorem zua (a : (List ByteArray)) (b : (List ByteArray)) : funK (cx [] []) Tryz.f31 zns [(.slice .str), (.slice .str)] [.bool] (a, b) = zjt a b := by kernel_rfl
theorem zqm (n : Int) : funK (cx [] [z6e]) Tryz.f61 zjw [(.int .i64)] [.bool] n = zh0 n := by kernel_rfl
theorem zni (l : (List z00)) : funK (cx [] []) Tryz.f9 zgp [(.slice z04)] [(.slice z04)] l = z20 l := by kernel_rfl
theorem ze6 (r : z01) (l : (List z00)) (sequence : (List Int)) : funK (cx [] [z7w, z19, z35, z1j, z2y]) Tryz.f46 z8d [z07, (.slice z04), (.slice (.int .i64))] [z05, (.int .i64)] (r, l, sequence) = z1c r l sequence := by kernel_rfl
theorem zjr (r : z01) (l : (List z00)) (sequence : (List Int)) : funK (cx [] [z2n, z2f]) Tryz.f16 zd9 [z07, (.slice z04), (.slice (.int .i64))] [(.int .i64), (.int .i64)] (r, l, sequence) = z6m r l sequence := by kernel_rfl
end Go.Lift
namespace Go.Lift
open Go Go.Proofs
theorem zjo (is : Bool) (e : Int) : funK (cx [] []) Tryz.f41 zd6 [.bool, (.int .i64)] [(.int .i64)] (is, e) = z0c is e := by kernel_rfl
theorem zig (n : Int) : funK (cx [] [z19]) Tryz.f64 zc7 [(.int .i64)] [.bool] n = z4p n := by kernel_rfl
theorem zeu (s : (List Int)) (f : (Int → Option Bool)) : funK (cx [] []) Tryz.f71 z8v [(.slice (.int .i64)), (.fn (.int .i64) .bool)] [(.int .i64)] (s, f) = z1y s f := by kernel_rfl
theorem zfo (r : z01) : funK (cx [] [z1j, z8a]) Tryz.f67 z9n [z07] [(.int .i64)] r = z2d r := by kernel_rfl
theorem zcm (r : z02) (sequence : (List Int)) (p : Int) : funK (cx [] [z19, zas]) Tryz.f97 z78 [z05, (.slice (.int .i64)), (.int .i64)] [(.arr 5 .bool)] (r, sequence, p) = z0p r sequence p := by kernel_rfl
theorem zfk (s : (List Int)) (v : Int) : funK (cx [] [zbm]) Tryz.f47 z9j [(.slice (.int .i64)), (.int .i64)] [.bool] (s, v) = slices_Contains_int s v := by kernel_rfl
theorem zfm (r : z02) (prices : (List Int)) : funK (cx [] [z2y, z5z]) Tryz.f44 z9l [z05, (.slice (.int .i64))] [(.int .i64)] (r, prices) = z2c r prices := by kernel_rfl
theorem zjq (s : ByteArray) : funK (cx [] [z19]) Tryz.f110 zd8 [.str] [.bool] s = z6l s := by kernel_rfl
theorem zay (s : (List (List ByteArray))) (f : ((List ByteArray) → Option Bool)) : funK (cx [] [z70]) Tryz.f80 z5v [(.slice (.slice .str)), (.fn (.slice .str) .bool)] [.bool] (s, f) = z1x s f := by kernel_rfl
theorem zey (y : (List (List ByteArray))) (request : (List ByteArray)) : funK (cx [] [z35, z1j, zb3, z5t, z7j, z38]) Tryz.f53 z8z [(.slice (.slice .str)), (.slice .str)] [(.slice (.slice .str)), (.int .i64)] (y, request) = z3r y request := by kernel_rfl
theorem zc0 (below : ByteArray) (x : (List ByteArray)) (x_1 : ByteArray) : funK (cx [] [z38, zdr]) Tryz.f91 z6n [.str, (.ptr (.slice .str)), (.ptr .str)] [.bool] (below, x, x_1) = z2h below x x_1 := by kernel_rfl
theorem zcl  : funK (cx [] [z2s, z80, zk0, zaa, zm5]) Tryz.f5 z77 [] [.bool] () = z1d := by kernel_rfl
theorem zoe (l : (List z00)) : funK (cx [] [z6e, zis]) Tryz.f32 zhs [(.slice z04)] [(.int .i64)] l = zbt l := by kernel_rfl
theorem zof (l : (List Int)) : funK (cx [] []) Tryz.f11 za6 [(.slice (.int .i64))] [(.slice (.int .i64))] l = z2p l := by kernel_rfl
theorem zc1 (r : z02) (sequence : (List Int)) : funK (cx [] [z2j]) Tryz.f51 z6o [z05, (.slice (.int .i64))] [z09, .bool] (r, sequence) = z1p r sequence := by kernel_rfl
end Go.Lift
namespace Go.Lift
open Go Go.Proofs
theorem z84 (s : (List z00)) (f : (z00 → Option Bool)) : funK (cx [] []) Tryz.f94 z4e [(.slice z04), (.fn z04 .bool)] [(.int .i64)] (s, f) = z0v s f := by kernel_rfl
theorem zez (n : Int) : funK (cx [] [z19]) Tryz.f65 z90 [(.int .i64)] [.bool] n = z2u n := by kernel_rfl
theorem zck (s : (List Int)) (f : (Int → Option Bool)) : funK (cx [] [z8k]) Tryz.f37 z76 [(.slice (.int .i64)), (.fn (.int .i64) .bool)] [.bool] (s, f) = z14 s f := by kernel_rfl
theorem zld (r : z01) (l : (List z00)) : funK (cx [] [z35, z1j, z3h, zcp, z9e]) Tryz.f33 zf7 [z07, (.slice z04)] [z05, (.int .i64)] (r, l) = z3c r l := by kernel_rfl
theorem zhi (s : (List Bool)) (v : Bool) : funK (cx [] []) Tryz.f111 zb5 [(.slice .bool), .bool] [(.int .i64)] (s, v) = z43 s v := by kernel_rfl
theorem zfn (r : z02) (a : Int) (b : Int) : funK (cx [] [zas]) Tryz.f70 z9m [z05, (.int .i64), (.int .i64)] [(.int .i64)] (r, a, b) = z1e r a b := by kernel_rfl
theorem zii (r : z01) (l : (List z00)) (prices : (List Int)) : funK (cx [] [z7w, z4i, za9, z35, z1j, z58, z57, z9d]) Tryz.f10 zc9 [z07, (.slice z04), (.slice (.int .i64))] [(.int .i64), (.int .i64)] (r, l, prices) = z1u r l prices := by kernel_rfl
theorem zgi (y : (List (List ByteArray))) : funK (cxM [] [z35, z1j, zcq]) Tryz.f93 zao [(.slice (.slice .str))] [(.int .i64), (.int .i64)] y = z4u y := by kernel_rfl
theorem zfj (s : (List ByteArray)) (v : ByteArray) : funK (cx [] []) Tryz.f106 z9i [(.slice .str), .str] [(.int .i64)] (s, v) = slices_Index_string s v := by kernel_rfl
theorem zan (s : (List ByteArray)) (f : (ByteArray → Option Bool)) : funK (cx [] []) Tryz.f109 z5o [(.slice .str), (.fn .str .bool)] [(.int .i64)] (s, f) = z1q s f := by kernel_rfl
theorem zdm (y : (List (List ByteArray))) (request : (List ByteArray)) : funK (cx [] [z55, z6d]) Tryz.f58 z7s [(.slice (.slice .str)), (.slice .str)] [(.slice .str)] (y, request) = z32 y request := by kernel_rfl
theorem zsn (n : Int) (lo : Int) (hi : Int) : funK (cx [] []) Tryz.f14 zl3 [(.int .i64), (.int .i64), (.int .i64)] [.bool] (n, lo, hi) = z1t n lo hi := by kernel_rfl
theorem zqn (r : z01) (l : (List z00)) : funK (cx [] [zda, zhk]) Tryz.f6 zjx [z07, (.slice z04)] [(.int .i64)] (r, l) = zdu r l := by kernel_rfl
theorem zzo (l : (List Int)) (n : Int) : funK (cx [] []) Tryz.f45 zt2 [(.slice (.int .i64)), (.int .i64)] [.bool] (l, n) = zsy l n := by kernel_rfl
theorem zew (r : z02) (sequence : (List Int)) : funK (cx [] [z4a]) Tryz.f50 z8x [z05, (.slice (.int .i64))] [.bool] (r, sequence) = z2t r sequence := by kernel_rfl
end Go.Lift
namespace Go.Lift
open Go Go.Proofs
theorem z6y (s : (List z00)) (f : (z00 → Option Bool)) : funK (cx [] [z49]) Tryz.f62 z3m [(.slice z04), (.fn z04 .bool)] [.bool] (s, f) = z0g s f := by kernel_rfl
theorem zih (n : Int) : funK (cx [] [z19]) Tryz.f66 zc8 [(.int .i64)] [.bool] n = z4q n := by kernel_rfl
theorem zcn (n : Int) (x : Int) : funK (cx [] [z19]) Tryz.f96 z79 [(.int .i64), (.ptr (.int .i64))] [.bool] (n, x) = z1w n x := by kernel_rfl
theorem zif (count : Int) : funK (cx [] []) Tryz.f35 zc6 [(.int .i64)] [(.slice (.int .i64))] count = z2v count := by kernel_rfl
theorem zev (s : (List Bool)) (v : Bool) : funK (cx [] [zb2]) Tryz.f98 z8w [(.slice .bool), .bool] [.bool] (s, v) = z1i s v := by kernel_rfl
theorem zex (r : z02) (sequence : (List Int)) : funK (cx [] [z5z]) Tryz.f36 z8y [z05, (.slice (.int .i64))] [(.int .i64)] (r, sequence) = z0i r sequence := by kernel_rfl
theorem zx7 (a : (List Int)) (b : (List Int)) : funK (cx [] []) Tryz.f18 zpi [(.slice (.int .i64)), (.slice (.int .i64))] [.bool] (a, b) = zaz a b := by kernel_rfl
theorem zhj (y : (List (List ByteArray))) : funK (cx [] [z9c, za8]) Tryz.f59 zb6 [(.slice (.slice .str))] [(.slice (.slice .str)), (.int .i64)] y = z5h y := by kernel_rfl
theorem zdl (s : (List ByteArray)) (v : ByteArray) : funK (cx [] [z5y]) Tryz.f82 z7r [(.slice .str), .str] [.bool] (s, v) = slices_Contains_string s v := by kernel_rfl
theorem z99 (s : (List ByteArray)) (f : (ByteArray → Option Bool)) : funK (cx [] [z5m]) Tryz.f90 z56 [(.slice .str), (.fn .str .bool)] [.bool] (s, f) = z1g s f := by kernel_rfl
theorem zgk (y : (List (List ByteArray))) (request : (List ByteArray)) : funK (cx [] [z8l, z7i]) Tryz.f27 zaq [(.slice (.slice .str)), (.slice .str)] [(.slice .str), (.int .i64)] (y, request) = z4v y request := by kernel_rfl
theorem zod (r : z01) : funK (cx [] [z6e]) Tryz.f17 zhr [z07] [(.int .i64)] r = z9r r := by kernel_rfl
theorem znh (l : (List z00)) (prices : (List Int)) : funK (cx [] [z6e]) Tryz.f7 zgo [(.slice z04), (.slice (.int .i64))] [(.int .i64)] (l, prices) = z6g l prices := by kernel_rfl
theorem zko (l : (List z00)) (sequence : (List Int)) : funK (cx [] [z6e, zr8]) Tryz.f12 ze9 [(.slice z04), (.slice (.int .i64))] [(.int .i64)] (l, sequence) = z5w l sequence := by kernel_rfl
theorem zf0 (r : z01) (l : (List z00)) (sequence : (List Int)) : funK (cx [] [z1j, z2f, z4a]) Tryz.f15 z91 [z07, (.slice z04), (.slice (.int .i64))] [z09, (.int .i64)] (r, l, sequence) = z3s r l sequence := by kernel_rfl
end Go.Lift
