/-
  The types, notes and signatures of these functions.
-/
import Derived.Test.YtggnjngdmadbaaaGreatDoorFunF
import Derived.Test.YtggnjngdmadbaaaGreatDoorLiftL
import Derived.Lib.ItoaNum
import Derived.KernelRfl
import Derived.Test.YtggnjngdmadbaaaGreatDoorProg
set_option linter.unusedSectionVars false
set_option linter.unusedVariables false
set_option linter.unusedSimpArgs false
namespace Go.Lift
open Go Go.Proofs
instance : Tab := yhl [(0, .u64, Lib.pow10Tab)] [(1, false), (2, true), (3, true)]
def zu5 : List (Nat × Ty) := [
 (2, (.int .i64)),
 (3, (.int .i64)),
 (4, .bool),
 (5, (.int .u8)),
 (6, (.int .u8)),
 (7, zer),
 (8, zer),
 (9, .str),
 (10, .str),
 (11, .str),
 (12, (.int .u64)),
 (13, z93),
 (14, z93),
 (21, (.int .i32)),
 (22, z16),
 (23, z16),
 (24, z0q),
 (25, z0q),
 (26, z0p),
 (27, z0p),
 (29, (.fn z16 (.int .i64))),
 (30, (.fn z0p (.int .i64))),
 (32, (.int .i64)),
 (38, z0h),
 (39, z0h),
 (40, (.slice z0a)),
 (41, (.slice (.int .i64))),
 (42, (.fn (.slice z0a) .bool)),
 (43, (.fn (.slice z0a) (.int .i64))),
 (46, (.fn (.slice z0a) (.slice z0a))),
 (49, (.fn (.slice (.int .i64)) (.slice (.int .i64)))),
 (60, (.slice (.slice .str))),
 (61, (.slice .str)),
 (62, z0q),
 (63, z0q),
 (66, (.fn (.slice (.slice .str)) (.slice (.slice .str)))),
 (71, (.fn (.slice .str) (.slice .str))),
 (81, z0q),
 (82, z0q),
 (85, (.fn z0h (.int .i64))),
 (86, (.fn z0h (.int .i64))),
 (89, y7u),
 (90, y7u),
 (94, z0a),
 (95, z0a),
 (96, (.fn z0p .str)),
 (101, (.fn z0p (.int .i64))),
 (103, (.fn z16 .str)),
 (108, (.fn z16 (.int .i64))),
 (110, (.slice z0q)),
 (111, (.fn (.slice (.slice .str)) (.int .i64))),
 (115, (.fn (.slice z0q) (.slice z0q))),
 (124, (.fn .str .bool)),
 (125, (.fn (.int .i64) .bool)),
 (126, (.fn (.slice (.int .i64)) (.int .i64))),
 (128, z0e),
 (129, z0e),
 (132, (.seq (.slice (.int .i64)))),
 (133, (.fn (.slice (.int .i64)) (.seq (.slice (.int .i64))))),
 (134, (.fn (.int .i64) (.slice (.int .i64)))),
 (135, (.fn (.slice (.int .i64)) (.int .i64))),
 (137, (.fn (.seq (.int .i64)) (.slice (.int .i64)))),
 (138, (.seq (.int .i64))),
 (139, (.seq (.int .i64))),
 (140, (.fn (.slice (.int .i64)) (.seq (.int .i64)))),
 (143, (.slice (.slice (.int .i64)))),
 (144, (.fn (.slice (.int .i64)) (.slice (.slice (.int .i64))))),
 (146, (.mapT .str .bool)),
 (147, (.slice (.slice .str))),
 (150, (.fn z0q (.int .i64))),
 (158, (.fn (.int .i64) (.int .i64))),
 (160, (.fn (.slice (.int .i64)) .bool)),
 (161, (.fn (.int .i64) .str)),
 (165, zee),
 (166, zee),
 (170, z0q),
 (171, z0q),
 (173, (.arr 6 .bool)),
 (177, (.arr 4 (.int .i64))),
 (183, zdj),
 (184, zdj),
 (185, (.fn z0q zdj)),
 (186, zx9),
 (187, zx9),
 (189, (.slice zx9)),
 (191, (.slice (.int .i64))),
 (193, (.fn z0a .bool)),
 (197, (.slice (.int .u8))),
 (200, (.fn (.slice .str) .bool)),
 (203, (.seq z0q)),
 (204, (.fn (.slice (.int .i64)) (.seq z0q))),
 (211, .err),
 (221, (.slice .bool)),
 (231, (.slice zdj)),
 (233, (.seq z0q)),
 (237, (.arr 5 .bool)),
 (242, (.fn (.int .u64) (.int .i64))),
 (243, (.int .u64)),
 (246, (.fn z0q .bool)),
 (251, (.mapT .str (.int .i64))),
 (257, (.fn z0q .bool)),
 (260, (.int .i64)),
 (267, (.fn (.int .u32) (.int .i64))),
 (268, (.int .u32)),
 (269, (.fn (.int .u64) (.int .i64))),
 (270, (.int .u64)),
 (271, (.arr 24 (.int .u8))),
 (277, (.fn (.int .i64) (.slice (.int .u8)))),
 (278, (.fn .str (.int .i64))),
 (284, (.int .i64)),
 (290, (.int .u64)),
 (291, (.fn (.int .i64) (.int .u64))),
 (295, (.fn .bool (.int .i64))),
 (296, (.arr 20 (.int .u64))),
 (297, (.arr 65 (.int .u8))),
 (300, (.fn .str .str)),
 (301, ziq),
 (302, ziq),
 (303, (.fn .str .err)),
 (306, (.arr 256 (.int .u8))),
 (307, zd9),
 (308, zd9),
 (309, (.arr 16 zd9)),
 (312, (.fn (.int .u8) (.int .u8))),
 (314, zg9),
 (315, zg9),
 (316, (.arr 32 (.int .u8))),
 (317, (.arr 64 (.int .u8))),
 (324, (.int .u8)),
 (325, (.int .u8)),
 (327, (.int .i32)),
 (328, (.int .i32))]
def y12 : List (Nat × Nat) := [(7, 4), (8, 4), (13, 2), (14, 2), (22, 5), (23, 5), (24, 2), (25, 2), (26, 7), (27, 7), (38, 9), (39, 9), (62, 2), (63, 2), (81, 2), (82, 2), (89, 2), (90, 2), (94, 4), (95, 4), (128, 2), (129, 2), (165, 2), (166, 2), (170, 2), (171, 2), (183, 4), (184, 4), (186, 2), (187, 2), (301, 3), (302, 3), (307, 2), (308, 2), (314, 1), (315, 1)]
def y1n : List Nat := [9, 23, 25, 27, 82]
theorem z11 : yhh Tryz.prog zu5 = true := by kernel_rfl
theorem z12 : yiw Tryz.prog zu5 y12 = true := by kernel_rfl
theorem z13 : yjd Tryz.prog zu5 y1n = true := by kernel_rfl
theorem z04 : Tryz.prog.follows .mixedOrders = true := by kernel_rfl
abbrev cx (own : List Nat) (l : List Sig) : Ctx := cxOf zu5 y12 y1n own l
abbrev cxM (own : List Nat) (l : List Sig) : Ctx := @cxOf mfOn zu5 y12 y1n own l
def zio : Ann := (.seq .nil (.seq (.seq .nil (.blk (.loopBD ⟨[⟨false, 7, 0, (.int .i64), [], false⟩], []⟩ ⟨[], []⟩ 0 .nil))) .nil))
def zh8 : Ann := .nil
def zh7 : Ann := .nil
def zhb : Ann := (.seq .nil (.seq (.seq .nil (.blk (.loopBD ⟨[⟨false, 9, 0, (.int .i64), [], false⟩], []⟩ ⟨[], []⟩ 0 .nil))) .nil))
def zg7 : Ann := .nil
def zc7 : Ann := .nil
def zg6 : Ann := .nil
def zhc : Ann := .nil
def zcy : Ann := .nil
def ze2 : Ann := .nil
def zim : Ann := .nil
def zcw : Ann := .nil
def zc3 : Ann := (.seq .nil (.seq (.seq .nil (.blk (.loopBD ⟨[⟨false, 8, 0, (.int .i64), [], false⟩], []⟩ ⟨[], []⟩ 0 .nil))) .nil))
def z9r : Ann := .nil
def z9u : Ann := .nil
def zb7 : Ann := (.seq .nil (.seq (.frz 2 .nil) .nil))
def zcx : Ann := .nil
def z6b : Ann := (.seq .nil (.seq (.seq .nil (.blk (.loopBD ⟨[⟨false, 8, 0, (.int .i64), [], false⟩], []⟩ ⟨[], []⟩ 0 .nil))) .nil))
def z5b : Ann := .nil
def zh9 : Ann := .nil
def zk5 : Ann := .nil
def zg5 : Ann := (.seq .nil (.seq .nil (.seq (.seq .nil (.blk (.loopB ⟨[⟨false, 3, 0, (.slice (.int .i64)), [([], some 101000300)], false⟩, ⟨false, 6, 0, (.int .i64), [], false⟩], []⟩ ⟨[⟨false, 3, 0, (.slice (.int .i64)), [([], some 201000300)], false⟩], []⟩ 0 .nil))) .nil)))
def zk4 : Ann := .nil
def z9t : Ann := (.seq .nil (.seq .nil (.seq .nil (.seq (.seq .nil (.blk (.loopB ⟨[⟨false, 8, 0, (.int .i64), [], false⟩, ⟨false, 19, 0, (.int .i64), [], false⟩], [3, 6, 7]⟩ ⟨[⟨false, 8, 0, (.int .i64), [], false⟩], [3, 6, 7]⟩ 0 .nil))) (.seq .nil (.seq .nil (.seq .nil (.seq .nil (.seq (.seq .nil (.join ⟨[⟨true, 7, 237, (.arr 5 .bool), [], false⟩], [3, 6, 11, 12]⟩ .nil .nil)) .nil)))))))))
def zep : Ann := (.seq .nil (.seq (.seq .nil (.blk (.loopBD ⟨[⟨false, 8, 0, (.int .i64), [], false⟩], []⟩ ⟨[], []⟩ 0 .nil))) .nil))
def zc4 : Ann := .nil
def zg3 : Ann := (.seq .nil (.seq (.seq .nil (.blk (.loopBD ⟨[⟨false, 8, 0, (.int .i64), [], false⟩], []⟩ ⟨[], []⟩ 0 .nil))) .nil))
def zcs : Ann := .nil
def zcv : Ann := .nil
def zc5 : Ann := (.seq .nil (.seq .nil (.seq (.seq .nil (.blk (.loopB ⟨[⟨false, 5, 0, (.int .i64), [], false⟩, ⟨false, 6, 0, (.int .i64), [], false⟩], [2]⟩ ⟨[⟨false, 5, 0, (.int .i64), [], false⟩], [2]⟩ 0 .nil))) .nil)))
def ze3 : Ann := .nil
def zcu : Ann := (.seq .nil (.seq .nil (.seq (.blk (.loopB ⟨[⟨false, 5, 0, (.slice (.int .i64)), [([], some 2201000500)], false⟩, ⟨false, 6, 0, (.int .i64), [], false⟩], [2]⟩ ⟨[⟨false, 6, 0, (.int .i64), [], false⟩], [2]⟩ 0 (.seq .nil (.blk (.seq .nil (.seq (.seq .nil (.blk (.loopB ⟨[⟨false, 7, 0, (.int .i64), [], false⟩, ⟨false, 8, 0, (.int .i64), [], false⟩, ⟨false, 22, 0, (.int .i64), [], false⟩], [2, 2201000500]⟩ ⟨[⟨false, 7, 0, (.int .i64), [], false⟩, ⟨false, 8, 0, (.int .i64), [], false⟩], [2, 2201000500]⟩ 2 (.seq .nil (.seq .nil (.seq (.blk (.seq .nil (.seq .nil (.blk (.loopB ⟨[⟨false, 7, 0, (.int .i64), [], false⟩, ⟨false, 8, 0, (.int .i64), [], false⟩, ⟨false, 29, 0, (.int .i64), [], false⟩], [2, 2201000500]⟩ ⟨[⟨false, 7, 0, (.int .i64), [], false⟩, ⟨false, 8, 0, (.int .i64), [], false⟩], [2, 2201000500]⟩ 4 (.seq .nil (.seq .nil (.seq (.blk (.seq .nil (.seq .nil (.seq .nil (.join ⟨[⟨false, 7, 0, (.int .i64), [], false⟩, ⟨false, 8, 0, (.int .i64), [], false⟩], [2, 2201000500]⟩ .nil .nil))))) .nil)))))))) .nil)))))) .nil)))))) .nil)))
def zg8 : Ann := (.seq .nil (.seq .nil (.seq .nil (.seq .nil (.seq .nil (.seq .nil (.seq (.seq .nil (.blk (.loopB ⟨[⟨false, 11, 0, (.int .i64), [], false⟩, ⟨false, 44, 0, (.int .i64), [], false⟩], [3, 8, 34]⟩ ⟨[⟨false, 11, 0, (.int .i64), [], false⟩], [3, 8, 34]⟩ 0 .nil))) .nil)))))))
def zzy : Ann := (.seq .nil (.seq .nil (.seq (.seq .nil (.blk (.loopBD ⟨[⟨false, 5, 0, (.int .i64), [], false⟩], []⟩ ⟨[], []⟩ 0 .nil))) .nil)))
def ze1 : Ann := (.seq .nil (.seq .nil (.seq .nil (.seq (.seq .nil (.blk (.loopBD ⟨[⟨false, 27, 0, (.int .i64), [], false⟩, ⟨true, 24, 146, (.mapT .str .bool), [], true⟩], [19]⟩ ⟨[⟨true, 24, 146, (.mapT .str .bool), [], true⟩], [19]⟩ 0 (.seq .nil (.seq .nil (.seq (.blk (.seq .nil (.seq .nil (.seq .nil (.blk (.loopBD ⟨[⟨false, 38, 0, (.int .i64), [], false⟩, ⟨true, 24, 146, (.mapT .str .bool), [], true⟩], [19]⟩ ⟨[⟨true, 24, 146, (.mapT .str .bool), [], true⟩], [19]⟩ 2 .nil)))))) .nil)))))) .nil))))
def zct : Ann := (.seq .nil (.seq .nil (.seq (.seq .nil (.blk (.loopB ⟨[⟨false, 3, 0, (.slice (.slice .str)), [([], some 101000300)], false⟩, ⟨false, 8, 0, (.int .i64), [], false⟩], []⟩ ⟨[⟨false, 3, 0, (.slice (.slice .str)), [([], some 201000300)], false⟩], []⟩ 0 .nil))) .nil)))
def zeq : Ann := .nil
def z9q : Ann := (.seq .nil (.seq (.seq .nil (.blk (.loopBD ⟨[⟨false, 8, 0, (.int .i64), [], false⟩], []⟩ ⟨[], []⟩ 0 .nil))) .nil))
def z7z : Ann := .nil
def zcr : Ann := (.seq .nil (.seq (.seq .nil (.blk (.loopBD ⟨[⟨false, 8, 0, (.int .i64), [], false⟩], []⟩ ⟨[], []⟩ 0 .nil))) .nil))
def zag : Ann := .nil
def zai : Ann := .nil
def zc6 : Ann := (.seq .nil (.seq .nil (.seq .nil (.seq (.seq .nil (.blk (.loopBD ⟨[⟨false, 22, 0, (.int .i64), [], false⟩], []⟩ ⟨[], []⟩ 0 (.seq .nil (.seq .nil (.seq (.blk (.seq .nil (.seq (.frz 9 .nil) .nil))) .nil)))))) .nil))))
def z7m : Ann := (.seq .nil (.seq (.seq .nil (.blk (.loopBD ⟨[⟨false, 8, 0, (.int .i64), [], false⟩], []⟩ ⟨[], []⟩ 0 .nil))) .nil))
def z6o : Ann := .nil
def zin : Ann := .nil
def z92 : Ann := .nil
def zah : Ann := (.seq .nil (.seq (.frz 3 .nil) (.seq (.seq .nil (.blk (.loopB ⟨[⟨false, 5, 0, (.slice .str), [([], some 801000500)], false⟩, ⟨false, 12, 0, (.int .i64), [], false⟩], []⟩ ⟨[⟨false, 5, 0, (.slice .str), [([], some 1601000500)], false⟩], []⟩ 0 (.seq .nil (.seq .nil (.seq (.blk (.seq .nil (.seq .nil (.blk (.loopB ⟨[⟨false, 5, 0, (.slice .str), [([], some 1901000500)], false⟩, ⟨false, 18, 0, (.int .i64), [], false⟩], []⟩ ⟨[⟨false, 5, 0, (.slice .str), [([], some 2201000500)], false⟩], []⟩ 2 (.seq .nil (.seq .nil (.seq (.blk (.seq .nil (.seq (.frz 9 .nil) (.join ⟨[⟨false, 5, 0, (.slice .str), [([], some 2301000500)], false⟩], []⟩ .nil .nil)))) .nil)))))))) .nil)))))) .nil)))
def ze4 : Ann := .nil
def zx8 : Ann := (.seq .nil (.seq .nil (.seq (.seq .nil (.blk (.loopBD ⟨[⟨false, 5, 0, (.int .i64), [], false⟩], []⟩ ⟨[], []⟩ 0 .nil))) .nil)))
def zha : Ann := .nil
def zzx : Ann := .nil
def zx6 : Ann := .nil
def zx7 : Ann := .nil
def zx5 : Ann := .nil
def zso : Ann := .nil
def zsp : Ann := (.seq .nil (.seq .nil (.seq (.seq .nil (.blk (.loopBD ⟨[⟨false, 3, 0, (.int .i64), [], false⟩], []⟩ ⟨[], []⟩ 0 .nil))) .nil)))
noncomputable abbrev zbf : Sig := ⟨114, [(.int .i64)], [.str], fun x => strconv_Itoa x⟩
noncomputable abbrev zal : Sig := ⟨117, [.str, .str], [(.slice .str)], fun x => strings_Split x.1 x.2⟩
noncomputable abbrev zbg : Sig := ⟨170, [.str], [(.int .i64), .err], fun x => strconv_Atoi x⟩
noncomputable abbrev z45 : Sig := ⟨84, [z0e, (.slice (.int .i64))], [(.seq (.slice (.int .i64)))], fun x => z25 x.1 x.2⟩
noncomputable abbrev z6f : Sig := ⟨187, [(.slice .str)], [(.slice .str)], fun x => slices_Clone_string x⟩
noncomputable abbrev z70 : Sig := ⟨91, [(.slice (.int .i64))], [(.seq (.int .i64))], fun x => z4o x⟩
noncomputable abbrev z71 : Sig := ⟨90, [(.seq (.int .i64))], [(.slice (.int .i64))], fun x => z3y x⟩
noncomputable abbrev z5h : Sig := ⟨24, [z0h, (.slice z0a)], [(.slice (.int .i64)), (.int .i64), (.int .i64)], fun x => z4u x.1 x.2⟩
noncomputable abbrev z6g : Sig := ⟨56, [.str], [z0p, (.int .i64), (.int .i64)], fun x => z2d x⟩
noncomputable abbrev z2p : Sig := ⟨80, [(.slice (.int .i64))], [(.int .i64)], fun x => z1x x⟩
noncomputable abbrev z27 : Sig := ⟨81, [.bool, (.int .i64)], [(.int .i64)], fun x => z0g x.1 x.2⟩
noncomputable abbrev z1g : Sig := ⟨89, [(.int .i64), (.int .i64), (.int .i64)], [.bool], fun x => z0r x.1 x.2.1 x.2.2⟩
noncomputable abbrev z8f : Sig := ⟨99, [.str], [.bool], fun x => z2a x⟩
noncomputable abbrev z7p : Sig := ⟨122, [(.int .i64)], [.bool], fun x => z4h x⟩
noncomputable abbrev z5m : Sig := ⟨123, [(.int .i64)], [.bool], fun x => z2t x⟩
noncomputable abbrev z7o : Sig := ⟨124, [(.int .i64)], [.bool], fun x => z4g x⟩
noncomputable abbrev zgp : Sig := ⟨125, [(.int .i64)], [.bool], fun x => z7f x⟩
noncomputable abbrev zck : Sig := ⟨58, [z0p], [(.int .i64)], fun x => z1j x⟩
noncomputable abbrev z8q : Sig := ⟨63, [z16], [(.int .i64)], fun x => z4e x⟩
noncomputable abbrev zi0 : Sig := ⟨82, [z16, z0p], [.bool], fun x => zaf x.1 x.2⟩
noncomputable abbrev zci : Sig := ⟨19, [z16, z0p], [z0q, (.int .i64)], fun x => z36 x.1 x.2⟩
noncomputable abbrev zbh : Sig := ⟨144, [(.slice (.int .i64)), (.fn (.int .i64) .bool)], [(.int .i64)], fun x => z3l x.1 x.2⟩
noncomputable abbrev z6i : Sig := ⟨87, [(.slice (.int .i64)), (.fn (.int .i64) .bool)], [.bool], fun x => z26 x.1 x.2⟩
noncomputable abbrev z9n : Sig := ⟨110, [(.int .i64), (.ptr (.int .i64))], [.bool], fun x => z3i x.1 x.2⟩
noncomputable abbrev zb0 : Sig := ⟨109, [(.int .i64), (.slice (.int .i64))], [.bool], fun x => z1o x.1 x.2⟩
noncomputable abbrev zcj : Sig := ⟨51, [z0h], [(.int .i64)], fun x => z3x x⟩
noncomputable abbrev z60 : Sig := ⟨180, [(.slice z0a), (.fn z0a .bool)], [(.int .i64)], fun x => z1u x.1 x.2⟩
noncomputable abbrev z58 : Sig := ⟨139, [(.slice z0a), (.fn z0a .bool)], [.bool], fun x => z14 x.1 x.2⟩
noncomputable abbrev zgo : Sig := ⟨140, [z0a], [.bool], fun x => z7e x⟩
noncomputable abbrev ze6 : Sig := ⟨83, [z0h, (.slice z0a)], [z0e, (.int .i64)], fun x => z5p x.1 x.2⟩
noncomputable abbrev zfi : Sig := ⟨85, [(.int .i64)], [(.slice (.int .i64))], fun x => z4f x⟩
noncomputable abbrev ze5 : Sig := ⟨183, [(.int .i64)], [(.int .i64)], fun x => z4z x⟩
noncomputable abbrev z4k : Sig := ⟨181, [z0e, (.slice (.int .i64)), (.int .i64)], [(.arr 5 .bool)], fun x => z1w x.1 x.2.1 x.2.2⟩
noncomputable abbrev zeh : Sig := ⟨212, [(.slice .bool), .bool], [(.int .i64)], fun x => z5t x.1 x.2⟩
noncomputable abbrev z5k : Sig := ⟨182, [(.slice .bool), .bool], [.bool], fun x => z2s x.1 x.2⟩
noncomputable abbrev zfg : Sig := ⟨177, [(.slice (.int .i64)), (.int .i64)], [(.int .i64)], fun x => slices_Index_int x.1 x.2⟩
noncomputable abbrev z6e : Sig := ⟨133, [(.slice (.int .i64)), (.int .i64)], [.bool], fun x => slices_Contains_int x.1 x.2⟩
noncomputable abbrev z87 : Sig := ⟨143, [z0e, (.int .i64), (.int .i64)], [(.int .i64)], fun x => z2m x.1 x.2.1 x.2.2⟩
noncomputable abbrev z5l : Sig := ⟨86, [z0e, (.slice (.int .i64))], [(.int .i64)], fun x => z1k x.1 x.2⟩
noncomputable abbrev zdm : Sig := ⟨88, [(.int .i64)], [.bool], fun x => z5a x⟩
noncomputable abbrev zch : Sig := ⟨92, [z0e, (.slice (.int .i64))], [(.int .i64)], fun x => z3w x.1 x.2⟩
noncomputable abbrev zfj : Sig := ⟨26, [z0h, (.slice z0a), (.slice (.int .i64))], [(.int .i64), (.int .i64)], fun x => z5e x.1 x.2.1 x.2.2⟩
noncomputable abbrev zyj : Sig := ⟨32, [(.slice (.int .i64)), (.slice (.int .i64))], [.bool], fun x => zhv x.1 x.2⟩
noncomputable abbrev z8p : Sig := ⟨37, [(.slice (.slice .str))], [(.int .i64), (.int .i64)], fun x => z1r x⟩
noncomputable abbrev zcg : Sig := ⟨148, [(.slice (.slice .str))], [(.slice (.slice .str))], fun x => z35 x⟩
noncomputable abbrev zei : Sig := ⟨100, [(.slice (.slice .str))], [(.slice (.slice .str)), (.int .i64)], fun x => z3h x⟩
noncomputable abbrev z9l : Sig := ⟨188, [(.slice (.slice .str)), (.fn (.slice .str) .bool)], [(.int .i64)], fun x => z3b x.1 x.2⟩
noncomputable abbrev z7t : Sig := ⟨150, [(.slice (.slice .str)), (.fn (.slice .str) .bool)], [.bool], fun x => z1s x.1 x.2⟩
noncomputable abbrev z86 : Sig := ⟨189, [(.slice .str), .str], [(.int .i64)], fun x => slices_Index_string x.1 x.2⟩
noncomputable abbrev z4w : Sig := ⟨152, [(.slice .str), .str], [.bool], fun x => slices_Contains_string x.1 x.2⟩
noncomputable abbrev za7 : Sig := ⟨151, [(.slice .str), (.ptr .str)], [.bool], fun x => z2v x.1 x.2⟩
noncomputable abbrev zbi : Sig := ⟨103, [(.slice (.slice .str)), (.slice .str)], [(.slice (.slice .str)), (.int .i64)], fun x => z3n x.1 x.2⟩
noncomputable abbrev z7j : Sig := ⟨190, [(.slice .str), (.fn .str .bool)], [(.int .i64)], fun x => z2h x.1 x.2⟩
noncomputable abbrev z6l : Sig := ⟨153, [(.slice .str), (.fn .str .bool)], [.bool], fun x => z0x x.1 x.2⟩
noncomputable abbrev zi1 : Sig := ⟨155, [(.slice .str), .str, .str], [.bool], fun x => z83 x.1 x.2.1 x.2.2⟩
noncomputable abbrev z8o : Sig := ⟨154, [.str, (.ptr (.slice .str)), (.ptr .str)], [.bool], fun x => z1q x.1 x.2.1 x.2.2⟩
noncomputable abbrev za6 : Sig := ⟨104, [(.slice (.slice .str)), (.slice .str)], [(.slice .str)], fun x => z2u x.1 x.2⟩
noncomputable abbrev z8r : Sig := ⟨40, [(.slice (.slice .str)), (.slice .str)], [(.slice .str), (.int .i64)], fun x => z3s x.1 x.2⟩
noncomputable abbrev ziv : Sig := ⟨46, [(.slice .str), (.slice .str)], [.bool], fun x => zf8 x.1 x.2⟩
noncomputable abbrev z8e : Sig := ⟨127, [.str], [(.int .i64), .bool], fun x => z2o x⟩
noncomputable abbrev zyi : Sig := ⟨75, [], [(.slice (.slice .str))], fun _ => zvw⟩
noncomputable abbrev zum : Sig := ⟨76, [], [z0h], fun _ => zmr⟩
noncomputable abbrev zun : Sig := ⟨77, [], [(.slice z0a)], fun _ => zms⟩
noncomputable abbrev zul : Sig := ⟨15, [], [.bool], fun _ => z73⟩
noncomputable abbrev zs9 : Sig := ⟨20, [(.int .i64), (.int .i64), (.int .i64)], [.bool], fun x => zc1 x.1 x.2.1 x.2.2⟩
noncomputable abbrev zsa : Sig := ⟨78, [.str], [.bool], fun x => zil x⟩
end Go.Lift
