/-
  Each function's code computes the plain function, by the kernel.
-/
import Derived.Test.YtggnjngdmadbaaaGreatDoorFunT
set_option linter.unusedSectionVars false
set_option linter.unusedVariables false
set_option linter.unusedSimpArgs false
namespace Go.Lift
open Go Go.Proofs
theorem zs0 (l : (List Int)) : funK (cx [] []) Tryz.f80 zio [(.slice (.int .i64))] [(.int .i64)] l = z1x l := by kernel_rfl
theorem zoq (n : Int) : funK (cx [] [z1g]) Tryz.f122 zg7 [(.int .i64)] [.bool] n = z4h n := by kernel_rfl
theorem zkq (o : z01) : funK (cx [] [z2p, z27, z1g, z8f, z7p, z5m, z7o, zgp]) Tryz.f58 zcy [z0p] [(.int .i64)] o = z1j o := by kernel_rfl
theorem zjl (s : (List Int)) (f : (Int → Option Bool)) : funK (cx [] []) Tryz.f144 zc3 [(.slice (.int .i64)), (.fn (.int .i64) .bool)] [(.int .i64)] (s, f) = z3l s f := by kernel_rfl
theorem zkp (r : z02) : funK (cx [] [z27, zb0]) Tryz.f51 zcx [z0h] [(.int .i64)] r = z3x r := by kernel_rfl
theorem zt5 (r : z02) (l : (List z00)) : funK (cx [] [zcj, z2p, z27, z58, zgo]) Tryz.f83 zk5 [z0h, (.slice z0a)] [z0e, (.int .i64)] (r, l) = z5p r l := by kernel_rfl
theorem znc (s : (List Bool)) (v : Bool) : funK (cx [] []) Tryz.f212 zep [(.slice .bool), .bool] [(.int .i64)] (s, v) = z5t s v := by kernel_rfl
theorem zkn (r : z05) (a : Int) (b : Int) : funK (cx [] [ze5]) Tryz.f143 zcv [z0e, (.int .i64), (.int .i64)] [(.int .i64)] (r, a, b) = z2m r a b := by kernel_rfl
theorem zor (r : z02) (l : (List z00)) (prices : (List Int)) : funK (cx [] [z2p, z27, ze6, z6i, zdm, z71, z70, zch]) Tryz.f26 zg8 [z0h, (.slice z0a), (.slice (.int .i64))] [(.int .i64), (.int .i64)] (r, l, prices) = z5e r l prices := by kernel_rfl
theorem znd (y : (List (List ByteArray))) : funK (cx [] [z8p, zcg]) Tryz.f100 zeq [(.slice (.slice .str))] [(.slice (.slice .str)), (.int .i64)] y = z3h y := by kernel_rfl
theorem zhs (s : (List ByteArray)) (v : ByteArray) : funK (cx [] [z86]) Tryz.f152 zag [(.slice .str), .str] [.bool] (s, v) = slices_Contains_string s v := by kernel_rfl
theorem zbz (s : (List ByteArray)) (f : (ByteArray → Option Bool)) : funK (cx [] [z7j]) Tryz.f153 z6o [(.slice .str), (.fn .str .bool)] [.bool] (s, f) = z0x s f := by kernel_rfl
theorem zm0 (y : (List (List ByteArray))) (request : (List ByteArray)) : funK (cx [] [zbi, za6]) Tryz.f40 ze4 [(.slice (.slice .str)), (.slice .str)] [(.slice .str), (.int .i64)] (y, request) = z3s y request := by kernel_rfl
theorem y7j  : funK (cx [] []) Tryz.f76 zx6 [] [z0h] () = zmr := by kernel_rfl
theorem y4y (s : ByteArray) : funK (cx [] []) Tryz.f78 zsp [.str] [.bool] s = zil s := by kernel_rfl
end Go.Lift
namespace Go.Lift
open Go Go.Proofs
theorem zqk (is : Bool) (e : Int) : funK (cx [] []) Tryz.f81 zh8 [.bool, (.int .i64)] [(.int .i64)] (is, e) = z0g is e := by kernel_rfl
theorem zjp (n : Int) : funK (cx [] [z1g]) Tryz.f123 zc7 [(.int .i64)] [.bool] n = z2t n := by kernel_rfl
theorem zly (s : z08) : funK (cx [] [z2p, z27, z1g, z8f, z7p, z5m, z7o]) Tryz.f63 ze2 [z16] [(.int .i64)] s = z4e s := by kernel_rfl
theorem zgj (s : (List Int)) (f : (Int → Option Bool)) : funK (cx [] [zbh]) Tryz.f87 z9r [(.slice (.int .i64)), (.fn (.int .i64) .bool)] [.bool] (s, f) = z26 s f := by kernel_rfl
theorem zat (s : (List z00)) (f : (z00 → Option Bool)) : funK (cx [] []) Tryz.f180 z6b [(.slice z0a), (.fn z0a .bool)] [(.int .i64)] (s, f) = z1u s f := by kernel_rfl
theorem zoo (count : Int) : funK (cx [] []) Tryz.f85 zg5 [(.int .i64)] [(.slice (.int .i64))] count = z4f count := by kernel_rfl
theorem zjm (s : (List Bool)) (v : Bool) : funK (cx [] [zeh]) Tryz.f182 zc4 [(.slice .bool), .bool] [.bool] (s, v) = z2s s v := by kernel_rfl
theorem zjn (r : z05) (sequence : (List Int)) : funK (cx [] [z87]) Tryz.f86 zc5 [z0e, (.slice (.int .i64))] [(.int .i64)] (r, sequence) = z1k r sequence := by kernel_rfl
theorem yca (a : (List Int)) (b : (List Int)) : funK (cx [] []) Tryz.f32 zzy [(.slice (.int .i64)), (.slice (.int .i64))] [.bool] (a, b) = zhv a b := by kernel_rfl
theorem zgi (s : (List (List ByteArray))) (f : ((List ByteArray) → Option Bool)) : funK (cx [] []) Tryz.f188 z9q [(.slice (.slice .str)), (.fn (.slice .str) .bool)] [(.int .i64)] (s, f) = z3b s f := by kernel_rfl
theorem zhu (pile : (List ByteArray)) (x : ByteArray) : funK (cx [] [z4w]) Tryz.f151 zai [(.slice .str), (.ptr .str)] [.bool] (pile, x) = z2v pile x := by kernel_rfl
theorem zrz (request : (List ByteArray)) (name : ByteArray) (than : ByteArray) : funK (cx [] [z86]) Tryz.f155 zin [(.slice .str), .str, .str] [.bool] (request, name, than) = z83 request name than := by kernel_rfl
theorem y7m (a : (List ByteArray)) (b : (List ByteArray)) : funK (cx [] []) Tryz.f46 zx8 [(.slice .str), (.slice .str)] [.bool] (a, b) = zf8 a b := by kernel_rfl
theorem y7k  : funK (cx [] []) Tryz.f77 zx7 [] [(.slice z0a)] () = zms := by kernel_rfl
end Go.Lift
namespace Go.Lift
open Go Go.Proofs
theorem zqj (n : Int) (lo : Int) (hi : Int) : funK (cx [] []) Tryz.f89 zh7 [(.int .i64), (.int .i64), (.int .i64)] [.bool] (n, lo, hi) = z0r n lo hi := by kernel_rfl
theorem zop (n : Int) : funK (cx [] [z1g]) Tryz.f124 zg6 [(.int .i64)] [.bool] n = z4g n := by kernel_rfl
theorem zry (s : z08) (o : z01) : funK (cx [] [z1g]) Tryz.f82 zim [z16, z0p] [.bool] (s, o) = zaf s o := by kernel_rfl
theorem zgm (n : Int) (x : Int) : funK (cx [] [z1g]) Tryz.f110 z9u [(.int .i64), (.ptr (.int .i64))] [.bool] (n, x) = z3i n x := by kernel_rfl
theorem z9g (s : (List z00)) (f : (z00 → Option Bool)) : funK (cx [] [z60]) Tryz.f139 z5b [(.slice z0a), (.fn z0a .bool)] [.bool] (s, f) = z14 s f := by kernel_rfl
theorem zt4 (n : Int) : funK (cx [] []) Tryz.f183 zk4 [(.int .i64)] [(.int .i64)] n = z4z n := by kernel_rfl
theorem zom (s : (List Int)) (v : Int) : funK (cx [] []) Tryz.f177 zg3 [(.slice (.int .i64)), (.int .i64)] [(.int .i64)] (s, v) = slices_Index_int s v := by kernel_rfl
theorem zlz (n : Int) : funK (cx [] [z1g]) Tryz.f88 ze3 [(.int .i64)] [.bool] n = z5a n := by kernel_rfl
theorem zlx (y : (List (List ByteArray))) : funK (cxM [] [z2p, z27, z8f]) Tryz.f37 ze1 [(.slice (.slice .str))] [(.int .i64), (.int .i64)] y = z1r y := by kernel_rfl
theorem zec (s : (List (List ByteArray))) (f : ((List ByteArray) → Option Bool)) : funK (cx [] [z9l]) Tryz.f150 z7z [(.slice (.slice .str)), (.fn (.slice .str) .bool)] [.bool] (s, f) = z1s s f := by kernel_rfl
theorem zjo (y : (List (List ByteArray))) (request : (List ByteArray)) : funK (cx [] [z2p, z27, zei, z7t, za7, z4w]) Tryz.f103 zc6 [(.slice (.slice .str)), (.slice .str)] [(.slice (.slice .str)), (.int .i64)] (y, request) = z3n y request := by kernel_rfl
theorem zg1 (below : ByteArray) (x : (List ByteArray)) (x_1 : ByteArray) : funK (cx [] [z4w, zi1]) Tryz.f154 z92 [.str, (.ptr (.slice .str)), (.ptr .str)] [.bool] (below, x, x_1) = z1q below x x_1 := by kernel_rfl
theorem zqm (s : ByteArray) : funK (cx [] [zbf, zbg]) Tryz.f127 zha [.str] [(.int .i64), .bool] s = z2o s := by kernel_rfl
theorem y7i  : funK (cx [] [zci, z5h, zfj, zyj, z8r, ziv, z6g, zyi, zum, zun]) Tryz.f15 zx5 [] [.bool] () = z73 := by kernel_rfl
end Go.Lift
namespace Go.Lift
open Go Go.Proofs
theorem zqn (s : ByteArray) : funK (cx [] [z1g]) Tryz.f99 zhb [.str] [.bool] s = z2a s := by kernel_rfl
theorem zqo (n : Int) : funK (cx [] [z1g]) Tryz.f125 zhc [(.int .i64)] [.bool] n = z7f n := by kernel_rfl
theorem zko (s : z08) (o : z01) : funK (cx [] [zck, z8q, z2p, z27, zi0]) Tryz.f19 zcw [z16, z0p] [z0q, (.int .i64)] (s, o) = z36 s o := by kernel_rfl
theorem zij (most : Int) (l : (List Int)) : funK (cx [] [z6i, z9n]) Tryz.f109 zb7 [(.int .i64), (.slice (.int .i64))] [.bool] (most, l) = z1o most l := by kernel_rfl
theorem zql (x : z00) : funK (cx [] [z1g, z7p, z5m, z7o]) Tryz.f140 zh9 [z0a] [.bool] x = z7e x := by kernel_rfl
theorem zgl (r : z05) (sequence : (List Int)) (p : Int) : funK (cx [] [z1g, ze5]) Tryz.f181 z9t [z0e, (.slice (.int .i64)), (.int .i64)] [(.arr 5 .bool)] (r, sequence, p) = z1w r sequence p := by kernel_rfl
theorem zkk (s : (List Int)) (v : Int) : funK (cx [] [zfg]) Tryz.f133 zcs [(.slice (.int .i64)), (.int .i64)] [.bool] (s, v) = slices_Contains_int s v := by kernel_rfl
theorem zkm (r : z05) (prices : (List Int)) : funK (cx [] [z6e, z87]) Tryz.f92 zcu [z0e, (.slice (.int .i64))] [(.int .i64)] (r, prices) = z3w r prices := by kernel_rfl
theorem zkl (y : (List (List ByteArray))) : funK (cx [] [z6f]) Tryz.f148 zct [(.slice (.slice .str))] [(.slice (.slice .str))] y = z35 y := by kernel_rfl
theorem zkj (s : (List ByteArray)) (v : ByteArray) : funK (cx [] []) Tryz.f189 zcr [(.slice .str), .str] [(.int .i64)] (s, v) = slices_Index_string s v := by kernel_rfl
theorem ze0 (s : (List ByteArray)) (f : (ByteArray → Option Bool)) : funK (cx [] []) Tryz.f190 z7m [(.slice .str), (.fn .str .bool)] [(.int .i64)] (s, f) = z2h s f := by kernel_rfl
theorem zht (y : (List (List ByteArray))) (request : (List ByteArray)) : funK (cx [] [z6l, z8o]) Tryz.f104 zah [(.slice (.slice .str)), (.slice .str)] [(.slice .str)] (y, request) = z2u y request := by kernel_rfl
theorem yc9  : funK (cx [] []) Tryz.f75 zzx [] [(.slice (.slice .str))] () = zvw := by kernel_rfl
theorem y4x (n : Int) (lo : Int) (hi : Int) : funK (cx [] []) Tryz.f20 zso [(.int .i64), (.int .i64), (.int .i64)] [.bool] (n, lo, hi) = zc1 n lo hi := by kernel_rfl
end Go.Lift
