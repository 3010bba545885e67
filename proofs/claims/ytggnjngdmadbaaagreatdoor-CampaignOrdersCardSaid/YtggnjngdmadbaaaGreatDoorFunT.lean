/-
  The types, notes and signatures of these functions.
-/
import Derived.Test.YtggnjngdmadbaaaGreatDoorFunF
import Derived.Test.YtggnjngdmadbaaaGreatDoorLiftL
import Derived.Lib.ItoaNum
import Derived.KernelRfl
import Derived.Test.YtggnjngdmadbaaaGreatDoorProg
set_option linter.unusedSectionVars false
set_option linter.unusedVariables false
set_option linter.unusedSimpArgs false
namespace Go.Lift
open Go Go.Proofs
instance : Tab := ybc [(0, .u64, Lib.pow10Tab)] [(1, false), (2, true), (3, true)]
def zw3 : List (Nat × Ty) := [
 (2, (.int .i64)),
 (3, (.int .i64)),
 (4, .bool),
 (5, (.int .u8)),
 (6, (.int .u8)),
 (7, zem),
 (8, zem),
 (9, .str),
 (10, .str),
 (11, .str),
 (12, (.int .u64)),
 (13, z8x),
 (14, z8x),
 (21, (.int .i32)),
 (22, z0o),
 (23, z0o),
 (24, z0r),
 (25, z0r),
 (26, z0i),
 (27, z0i),
 (29, (.fn z0o (.int .i64))),
 (30, (.fn z0i (.int .i64))),
 (32, (.int .i64)),
 (38, z06),
 (39, z06),
 (40, (.slice z03)),
 (41, (.slice (.int .i64))),
 (42, (.fn (.slice z03) .bool)),
 (43, (.fn (.slice z03) (.int .i64))),
 (46, (.fn (.slice z03) (.slice z03))),
 (49, (.fn (.slice (.int .i64)) (.slice (.int .i64)))),
 (60, (.slice (.slice .str))),
 (61, (.slice .str)),
 (62, z0r),
 (63, z0r),
 (66, (.fn (.slice (.slice .str)) (.slice (.slice .str)))),
 (71, (.fn (.slice .str) (.slice .str))),
 (81, z0r),
 (82, z0r),
 (85, (.fn z06 (.int .i64))),
 (86, (.fn z06 (.int .i64))),
 (89, zvt),
 (90, zvt),
 (94, z03),
 (95, z03),
 (96, (.fn z0i .str)),
 (101, (.fn z0i (.int .i64))),
 (103, (.fn z0o .str)),
 (108, (.fn z0o (.int .i64))),
 (110, (.slice z0r)),
 (111, (.fn (.slice (.slice .str)) (.int .i64))),
 (115, (.fn (.slice z0r) (.slice z0r))),
 (124, (.fn .str .bool)),
 (125, (.fn (.int .i64) .bool)),
 (126, (.fn (.slice (.int .i64)) (.int .i64))),
 (128, z0a),
 (129, z0a),
 (132, (.seq (.slice (.int .i64)))),
 (133, (.fn (.slice (.int .i64)) (.seq (.slice (.int .i64))))),
 (134, (.fn (.int .i64) (.slice (.int .i64)))),
 (135, (.fn (.slice (.int .i64)) (.int .i64))),
 (137, (.fn (.seq (.int .i64)) (.slice (.int .i64)))),
 (138, (.seq (.int .i64))),
 (139, (.seq (.int .i64))),
 (140, (.fn (.slice (.int .i64)) (.seq (.int .i64)))),
 (143, (.slice (.slice (.int .i64)))),
 (144, (.fn (.slice (.int .i64)) (.slice (.slice (.int .i64))))),
 (146, (.mapT .str .bool)),
 (147, (.slice (.slice .str))),
 (150, (.fn z0r (.int .i64))),
 (158, (.fn (.int .i64) (.int .i64))),
 (160, (.fn (.slice (.int .i64)) .bool)),
 (161, (.fn (.int .i64) .str)),
 (165, zed),
 (166, zed),
 (170, z0r),
 (171, z0r),
 (173, (.arr 6 .bool)),
 (177, (.arr 4 (.int .i64))),
 (183, zdf),
 (184, zdf),
 (185, (.fn z0r zdf)),
 (186, zvs),
 (187, zvs),
 (189, (.slice zvs)),
 (191, (.slice (.int .i64))),
 (193, (.fn z03 .bool)),
 (197, (.slice (.int .u8))),
 (200, (.fn (.slice .str) .bool)),
 (203, (.seq z0r)),
 (204, (.fn (.slice (.int .i64)) (.seq z0r))),
 (211, .err),
 (221, (.slice .bool)),
 (231, (.slice zdf)),
 (233, (.seq z0r)),
 (237, (.arr 5 .bool)),
 (242, (.fn (.int .u64) (.int .i64))),
 (243, (.int .u64)),
 (246, (.fn z0r .bool)),
 (251, (.mapT .str (.int .i64))),
 (257, (.fn z0r .bool)),
 (260, (.int .i64)),
 (267, (.fn (.int .u32) (.int .i64))),
 (268, (.int .u32)),
 (269, (.fn (.int .u64) (.int .i64))),
 (270, (.int .u64)),
 (271, (.arr 24 (.int .u8))),
 (277, (.fn (.int .i64) (.slice (.int .u8)))),
 (278, (.fn .str (.int .i64))),
 (284, (.int .i64)),
 (290, (.int .u64)),
 (291, (.fn (.int .i64) (.int .u64))),
 (295, (.fn .bool (.int .i64))),
 (296, (.arr 20 (.int .u64))),
 (297, (.arr 65 (.int .u8))),
 (300, (.fn .str .str)),
 (301, zib),
 (302, zib),
 (303, (.fn .str .err)),
 (306, (.arr 256 (.int .u8))),
 (307, zd6),
 (308, zd6),
 (309, (.arr 16 zd6)),
 (312, (.fn (.int .u8) (.int .u8))),
 (314, zfw),
 (315, zfw),
 (316, (.arr 32 (.int .u8))),
 (317, (.arr 64 (.int .u8))),
 (324, (.int .u8)),
 (325, (.int .u8)),
 (327, (.int .i32)),
 (328, (.int .i32))]
def y11 : List (Nat × Nat) := [(7, 4), (8, 4), (13, 2), (14, 2), (22, 5), (23, 5), (24, 2), (25, 2), (26, 7), (27, 7), (38, 9), (39, 9), (62, 2), (63, 2), (81, 2), (82, 2), (89, 2), (90, 2), (94, 4), (95, 4), (128, 2), (129, 2), (165, 2), (166, 2), (170, 2), (171, 2), (183, 4), (184, 4), (186, 2), (187, 2), (301, 3), (302, 3), (307, 2), (308, 2), (314, 1), (315, 1)]
def y1v : List Nat := [9, 23, 25, 27, 82]
theorem z0s : y68 Tryz.prog zw3 = true := by kernel_rfl
theorem z0t : y6o Tryz.prog zw3 y11 = true := by kernel_rfl
theorem z0u : y7f Tryz.prog zw3 y1v = true := by kernel_rfl
theorem z04 : Tryz.prog.follows .mixedOrders = true := by kernel_rfl
abbrev cx (own : List Nat) (l : List Sig) : Ctx := cxOf zw3 y11 y1v own l
abbrev cxM (own : List Nat) (l : List Sig) : Ctx := @cxOf mfOn zw3 y11 y1v own l
def zi9 : Ann := (.seq .nil (.seq (.seq .nil (.blk (.loopBD ⟨[⟨false, 7, 0, (.int .i64), [], false⟩], []⟩ ⟨[], []⟩ 0 .nil))) .nil))
def zgr : Ann := .nil
def zgq : Ann := .nil
def zgu : Ann := (.seq .nil (.seq (.seq .nil (.blk (.loopBD ⟨[⟨false, 9, 0, (.int .i64), [], false⟩], []⟩ ⟨[], []⟩ 0 .nil))) .nil))
def zfu : Ann := .nil
def zby : Ann := .nil
def zft : Ann := .nil
def zgv : Ann := .nil
def zct : Ann := .nil
def ze2 : Ann := .nil
def zi7 : Ann := .nil
def zcr : Ann := .nil
def zbu : Ann := (.seq .nil (.seq (.seq .nil (.blk (.loopBD ⟨[⟨false, 8, 0, (.int .i64), [], false⟩], []⟩ ⟨[], []⟩ 0 .nil))) .nil))
def z9k : Ann := .nil
def z9m : Ann := .nil
def zb2 : Ann := (.seq .nil (.seq (.frz 2 .nil) .nil))
def zcs : Ann := .nil
def z5u : Ann := (.seq .nil (.seq (.seq .nil (.blk (.loopBD ⟨[⟨false, 8, 0, (.int .i64), [], false⟩], []⟩ ⟨[], []⟩ 0 .nil))) .nil))
def z4s : Ann := .nil
def zgs : Ann := .nil
def zji : Ann := .nil
def zfs : Ann := (.seq .nil (.seq .nil (.seq (.seq .nil (.blk (.loopB ⟨[⟨false, 3, 0, (.slice (.int .i64)), [([], some 101000300)], false⟩, ⟨false, 6, 0, (.int .i64), [], false⟩], []⟩ ⟨[⟨false, 3, 0, (.slice (.int .i64)), [([], some 201000300)], false⟩], []⟩ 0 .nil))) .nil)))
def zjh : Ann := .nil
def z9l : Ann := (.seq .nil (.seq .nil (.seq .nil (.seq (.seq .nil (.blk (.loopB ⟨[⟨false, 8, 0, (.int .i64), [], false⟩, ⟨false, 19, 0, (.int .i64), [], false⟩], [3, 6, 7]⟩ ⟨[⟨false, 8, 0, (.int .i64), [], false⟩], [3, 6, 7]⟩ 0 .nil))) (.seq .nil (.seq .nil (.seq .nil (.seq .nil (.seq (.seq .nil (.join ⟨[⟨true, 7, 237, (.arr 5 .bool), [], false⟩], [3, 6, 11, 12]⟩ .nil .nil)) .nil)))))))))
def zek : Ann := (.seq .nil (.seq (.seq .nil (.blk (.loopBD ⟨[⟨false, 8, 0, (.int .i64), [], false⟩], []⟩ ⟨[], []⟩ 0 .nil))) .nil))
def zbv : Ann := .nil
def zfq : Ann := (.seq .nil (.seq (.seq .nil (.blk (.loopBD ⟨[⟨false, 8, 0, (.int .i64), [], false⟩], []⟩ ⟨[], []⟩ 0 .nil))) .nil))
def zcm : Ann := .nil
def zcq : Ann := .nil
def zbw : Ann := (.seq .nil (.seq .nil (.seq (.seq .nil (.blk (.loopB ⟨[⟨false, 5, 0, (.int .i64), [], false⟩, ⟨false, 6, 0, (.int .i64), [], false⟩], [2]⟩ ⟨[⟨false, 5, 0, (.int .i64), [], false⟩], [2]⟩ 0 .nil))) .nil)))
def ze3 : Ann := .nil
def zcp : Ann := (.seq .nil (.seq .nil (.seq (.blk (.loopB ⟨[⟨false, 5, 0, (.slice (.int .i64)), [([], some 2201000500)], false⟩, ⟨false, 6, 0, (.int .i64), [], false⟩], [2]⟩ ⟨[⟨false, 6, 0, (.int .i64), [], false⟩], [2]⟩ 0 (.seq .nil (.blk (.seq .nil (.seq (.seq .nil (.blk (.loopB ⟨[⟨false, 7, 0, (.int .i64), [], false⟩, ⟨false, 8, 0, (.int .i64), [], false⟩, ⟨false, 22, 0, (.int .i64), [], false⟩], [2, 2201000500]⟩ ⟨[⟨false, 7, 0, (.int .i64), [], false⟩, ⟨false, 8, 0, (.int .i64), [], false⟩], [2, 2201000500]⟩ 2 (.seq .nil (.seq .nil (.seq (.blk (.seq .nil (.seq .nil (.blk (.loopB ⟨[⟨false, 7, 0, (.int .i64), [], false⟩, ⟨false, 8, 0, (.int .i64), [], false⟩, ⟨false, 29, 0, (.int .i64), [], false⟩], [2, 2201000500]⟩ ⟨[⟨false, 7, 0, (.int .i64), [], false⟩, ⟨false, 8, 0, (.int .i64), [], false⟩], [2, 2201000500]⟩ 4 (.seq .nil (.seq .nil (.seq (.blk (.seq .nil (.seq .nil (.seq .nil (.join ⟨[⟨false, 7, 0, (.int .i64), [], false⟩, ⟨false, 8, 0, (.int .i64), [], false⟩], [2, 2201000500]⟩ .nil .nil))))) .nil)))))))) .nil)))))) .nil)))))) .nil)))
def zfv : Ann := (.seq .nil (.seq .nil (.seq .nil (.seq .nil (.seq .nil (.seq .nil (.seq (.seq .nil (.blk (.loopB ⟨[⟨false, 11, 0, (.int .i64), [], false⟩, ⟨false, 44, 0, (.int .i64), [], false⟩], [3, 8, 34]⟩ ⟨[⟨false, 11, 0, (.int .i64), [], false⟩], [3, 8, 34]⟩ 0 .nil))) .nil)))))))
def zy0 : Ann := (.seq .nil (.seq .nil (.seq (.seq .nil (.blk (.loopBD ⟨[⟨false, 5, 0, (.int .i64), [], false⟩], []⟩ ⟨[], []⟩ 0 .nil))) .nil)))
def ze1 : Ann := (.seq .nil (.seq .nil (.seq .nil (.seq (.seq .nil (.blk (.loopBD ⟨[⟨false, 27, 0, (.int .i64), [], false⟩, ⟨true, 24, 146, (.mapT .str .bool), [], true⟩], [19]⟩ ⟨[⟨true, 24, 146, (.mapT .str .bool), [], true⟩], [19]⟩ 0 (.seq .nil (.seq .nil (.seq (.blk (.seq .nil (.seq .nil (.seq .nil (.blk (.loopBD ⟨[⟨false, 38, 0, (.int .i64), [], false⟩, ⟨true, 24, 146, (.mapT .str .bool), [], true⟩], [19]⟩ ⟨[⟨true, 24, 146, (.mapT .str .bool), [], true⟩], [19]⟩ 2 .nil)))))) .nil)))))) .nil))))
def zco : Ann := (.seq .nil (.seq .nil (.seq (.seq .nil (.blk (.loopB ⟨[⟨false, 3, 0, (.slice (.slice .str)), [([], some 101000300)], false⟩, ⟨false, 8, 0, (.int .i64), [], false⟩], []⟩ ⟨[⟨false, 3, 0, (.slice (.slice .str)), [([], some 201000300)], false⟩], []⟩ 0 .nil))) .nil)))
def zel : Ann := .nil
def z9j : Ann := (.seq .nil (.seq (.seq .nil (.blk (.loopBD ⟨[⟨false, 8, 0, (.int .i64), [], false⟩], []⟩ ⟨[], []⟩ 0 .nil))) .nil))
def z7p : Ann := .nil
def zcl : Ann := (.seq .nil (.seq (.seq .nil (.blk (.loopBD ⟨[⟨false, 8, 0, (.int .i64), [], false⟩], []⟩ ⟨[], []⟩ 0 .nil))) .nil))
def za6 : Ann := .nil
def za8 : Ann := .nil
def zbx : Ann := (.seq .nil (.seq .nil (.seq .nil (.seq (.seq .nil (.blk (.loopBD ⟨[⟨false, 22, 0, (.int .i64), [], false⟩], []⟩ ⟨[], []⟩ 0 (.seq .nil (.seq .nil (.seq (.blk (.seq .nil (.seq (.frz 9 .nil) .nil))) .nil)))))) .nil))))
def z73 : Ann := (.seq .nil (.seq (.seq .nil (.blk (.loopBD ⟨[⟨false, 8, 0, (.int .i64), [], false⟩], []⟩ ⟨[], []⟩ 0 .nil))) .nil))
def z69 : Ann := .nil
def zi8 : Ann := .nil
def z8v : Ann := .nil
def za7 : Ann := (.seq .nil (.seq (.frz 3 .nil) (.seq (.seq .nil (.blk (.loopB ⟨[⟨false, 5, 0, (.slice .str), [([], some 801000500)], false⟩, ⟨false, 12, 0, (.int .i64), [], false⟩], []⟩ ⟨[⟨false, 5, 0, (.slice .str), [([], some 1601000500)], false⟩], []⟩ 0 (.seq .nil (.seq .nil (.seq (.blk (.seq .nil (.seq .nil (.blk (.loopB ⟨[⟨false, 5, 0, (.slice .str), [([], some 1901000500)], false⟩, ⟨false, 18, 0, (.int .i64), [], false⟩], []⟩ ⟨[⟨false, 5, 0, (.slice .str), [([], some 2201000500)], false⟩], []⟩ 2 (.seq .nil (.seq .nil (.seq (.blk (.seq .nil (.seq (.frz 9 .nil) (.join ⟨[⟨false, 5, 0, (.slice .str), [([], some 2301000500)], false⟩], []⟩ .nil .nil)))) .nil)))))))) .nil)))))) .nil)))
def ze4 : Ann := .nil
def zvq : Ann := (.seq .nil (.seq .nil (.seq (.seq .nil (.blk (.loopBD ⟨[⟨false, 5, 0, (.int .i64), [], false⟩], []⟩ ⟨[], []⟩ 0 .nil))) .nil)))
def zgt : Ann := .nil
def zxy : Ann := .nil
def zvo : Ann := .nil
def zvp : Ann := .nil
def zvn : Ann := .nil
def zs1 : Ann := .nil
def zs2 : Ann := (.seq .nil (.seq .nil (.seq (.seq .nil (.blk (.loopBD ⟨[⟨false, 3, 0, (.int .i64), [], false⟩], []⟩ ⟨[], []⟩ 0 .nil))) .nil)))
def zq7 : Ann := .nil
def zn8 : Ann := .nil
def zvr : Ann := (.seq .nil (.seq .nil (.seq (.seq .nil (.join ⟨[⟨false, 5, 0, (.int .i64), [], false⟩], []⟩ .nil .nil)) .nil)))
noncomputable abbrev z5m : Sig := ⟨114, [(.int .i64)], [.str], fun x => strconv_Itoa x⟩
noncomputable abbrev z61 : Sig := ⟨117, [.str, .str], [(.slice .str)], fun x => strings_Split x.1 x.2⟩
noncomputable abbrev z5n : Sig := ⟨170, [.str], [(.int .i64), .err], fun x => strconv_Atoi x⟩
noncomputable abbrev z1c : Sig := ⟨84, [z0a, (.slice (.int .i64))], [(.seq (.slice (.int .i64)))], fun x => z1f x.1 x.2⟩
noncomputable abbrev z2i : Sig := ⟨187, [(.slice .str)], [(.slice .str)], fun x => slices_Clone_string x⟩
noncomputable abbrev z2y : Sig := ⟨91, [(.slice (.int .i64))], [(.seq (.int .i64))], fun x => z44 x⟩
noncomputable abbrev z2z : Sig := ⟨90, [(.seq (.int .i64))], [(.slice (.int .i64))], fun x => z3j x⟩
noncomputable abbrev z1i : Sig := ⟨24, [z06, (.slice z03)], [(.slice (.int .i64)), (.int .i64), (.int .i64)], fun x => z1x x.1 x.2⟩
noncomputable abbrev z2j : Sig := ⟨56, [.str], [z0i, (.int .i64), (.int .i64)], fun x => z4a x⟩
noncomputable abbrev z2e : Sig := ⟨80, [(.slice (.int .i64))], [(.int .i64)], fun x => z1t x⟩
noncomputable abbrev z1z : Sig := ⟨81, [.bool, (.int .i64)], [(.int .i64)], fun x => z0l x.1 x.2⟩
noncomputable abbrev z17 : Sig := ⟨89, [(.int .i64), (.int .i64), (.int .i64)], [.bool], fun x => z0w x.1 x.2.1 x.2.2⟩
noncomputable abbrev z88 : Sig := ⟨99, [.str], [.bool], fun x => z29 x⟩
noncomputable abbrev z78 : Sig := ⟨122, [(.int .i64)], [.bool], fun x => z2s x⟩
noncomputable abbrev z55 : Sig := ⟨123, [(.int .i64)], [.bool], fun x => z1s x⟩
noncomputable abbrev z77 : Sig := ⟨124, [(.int .i64)], [.bool], fun x => z2r x⟩
noncomputable abbrev zgd : Sig := ⟨125, [(.int .i64)], [.bool], fun x => z5t x⟩
noncomputable abbrev z7x : Sig := ⟨58, [z0i], [(.int .i64)], fun x => z13 x⟩
noncomputable abbrev z8k : Sig := ⟨63, [z0o], [(.int .i64)], fun x => z36 x⟩
noncomputable abbrev zcx : Sig := ⟨82, [z0o, z0i], [.bool], fun x => z5h x.1 x.2⟩
noncomputable abbrev z7v : Sig := ⟨19, [z0o, z0i], [z0r, (.int .i64)], fun x => z2p x.1 x.2⟩
noncomputable abbrev zb9 : Sig := ⟨144, [(.slice (.int .i64)), (.fn (.int .i64) .bool)], [(.int .i64)], fun x => z2x x.1 x.2⟩
noncomputable abbrev z5x : Sig := ⟨87, [(.slice (.int .i64)), (.fn (.int .i64) .bool)], [.bool], fun x => z1y x.1 x.2⟩
noncomputable abbrev z9g : Sig := ⟨110, [(.int .i64), (.ptr (.int .i64))], [.bool], fun x => z2v x.1 x.2⟩
noncomputable abbrev zat : Sig := ⟨109, [(.int .i64), (.slice (.int .i64))], [.bool], fun x => z1d x.1 x.2⟩
noncomputable abbrev z7w : Sig := ⟨51, [z06], [(.int .i64)], fun x => z2q x⟩
noncomputable abbrev z5o : Sig := ⟨180, [(.slice z03), (.fn z03 .bool)], [(.int .i64)], fun x => z1l x.1 x.2⟩
noncomputable abbrev z4o : Sig := ⟨139, [(.slice z03), (.fn z03 .bool)], [.bool], fun x => z11 x.1 x.2⟩
noncomputable abbrev zgc : Sig := ⟨140, [z03], [.bool], fun x => z6v x⟩
noncomputable abbrev z7h : Sig := ⟨83, [z06, (.slice z03)], [z0a, (.int .i64)], fun x => z3t x.1 x.2⟩
noncomputable abbrev zfa : Sig := ⟨85, [(.int .i64)], [(.slice (.int .i64))], fun x => z3v x⟩
noncomputable abbrev ze7 : Sig := ⟨183, [(.int .i64)], [(.int .i64)], fun x => z4h x⟩
noncomputable abbrev z3x : Sig := ⟨181, [z0a, (.slice (.int .i64)), (.int .i64)], [(.arr 5 .bool)], fun x => z1a x.1 x.2.1 x.2.2⟩
noncomputable abbrev zeg : Sig := ⟨212, [(.slice .bool), .bool], [(.int .i64)], fun x => z5i x.1 x.2⟩
noncomputable abbrev z54 : Sig := ⟨182, [(.slice .bool), .bool], [.bool], fun x => z2h x.1 x.2⟩
noncomputable abbrev zf6 : Sig := ⟨177, [(.slice (.int .i64)), (.int .i64)], [(.int .i64)], fun x => slices_Index_int x.1 x.2⟩
noncomputable abbrev z5w : Sig := ⟨133, [(.slice (.int .i64)), (.int .i64)], [.bool], fun x => slices_Contains_int x.1 x.2⟩
noncomputable abbrev z7u : Sig := ⟨143, [z0a, (.int .i64), (.int .i64)], [(.int .i64)], fun x => z2b x.1 x.2.1 x.2.2⟩
noncomputable abbrev z74 : Sig := ⟨86, [z0a, (.slice (.int .i64))], [(.int .i64)], fun x => z19 x.1 x.2⟩
noncomputable abbrev zdk : Sig := ⟨88, [(.int .i64)], [.bool], fun x => z4r x⟩
noncomputable abbrev zcd : Sig := ⟨92, [z0a, (.slice (.int .i64))], [(.int .i64)], fun x => z3h x.1 x.2⟩
noncomputable abbrev z79 : Sig := ⟨26, [z06, (.slice z03), (.slice (.int .i64))], [(.int .i64), (.int .i64)], fun x => z3d x.1 x.2.1 x.2.2⟩
noncomputable abbrev zqj : Sig := ⟨32, [(.slice (.int .i64)), (.slice (.int .i64))], [.bool], fun x => zlb x.1 x.2⟩
noncomputable abbrev zdj : Sig := ⟨37, [(.slice (.slice .str))], [(.int .i64), (.int .i64)], fun x => z67 x⟩
noncomputable abbrev zcc : Sig := ⟨148, [(.slice (.slice .str))], [(.slice (.slice .str))], fun x => z5s x⟩
noncomputable abbrev zeh : Sig := ⟨100, [(.slice (.slice .str))], [(.slice (.slice .str)), (.int .i64)], fun x => z6w x⟩
noncomputable abbrev z9f : Sig := ⟨188, [(.slice (.slice .str)), (.fn (.slice .str) .bool)], [(.int .i64)], fun x => z3s x.1 x.2⟩
noncomputable abbrev z7g : Sig := ⟨150, [(.slice (.slice .str)), (.fn (.slice .str) .bool)], [.bool], fun x => z2w x.1 x.2⟩
noncomputable abbrev z7t : Sig := ⟨189, [(.slice .str), .str], [(.int .i64)], fun x => slices_Index_string x.1 x.2⟩
noncomputable abbrev z4d : Sig := ⟨152, [(.slice .str), .str], [.bool], fun x => slices_Contains_string x.1 x.2⟩
noncomputable abbrev z9x : Sig := ⟨151, [(.slice .str), (.ptr .str)], [.bool], fun x => z40 x.1 x.2⟩
noncomputable abbrev zbb : Sig := ⟨103, [(.slice (.slice .str)), (.slice .str)], [(.slice (.slice .str)), (.int .i64)], fun x => z52 x.1 x.2⟩
noncomputable abbrev z71 : Sig := ⟨190, [(.slice .str), (.fn .str .bool)], [(.int .i64)], fun x => z2n x.1 x.2⟩
noncomputable abbrev z64 : Sig := ⟨153, [(.slice .str), (.fn .str .bool)], [.bool], fun x => z2a x.1 x.2⟩
noncomputable abbrev zhj : Sig := ⟨155, [(.slice .str), .str, .str], [.bool], fun x => za4 x.1 x.2.1 x.2.2⟩
noncomputable abbrev z8i : Sig := ⟨154, [.str, (.ptr (.slice .str)), (.ptr .str)], [.bool], fun x => z3k x.1 x.2.1 x.2.2⟩
noncomputable abbrev z9w : Sig := ⟨104, [(.slice (.slice .str)), (.slice .str)], [(.slice .str)], fun x => z3z x.1 x.2⟩
noncomputable abbrev zdl : Sig := ⟨40, [(.slice (.slice .str)), (.slice .str)], [(.slice .str), (.int .i64)], fun x => z68 x.1 x.2⟩
noncomputable abbrev zti : Sig := ⟨46, [(.slice .str), (.slice .str)], [.bool], fun x => zq5 x.1 x.2⟩
noncomputable abbrev zbc : Sig := ⟨127, [.str], [(.int .i64), .bool], fun x => z6x x⟩
noncomputable abbrev zwr : Sig := ⟨75, [], [(.slice (.slice .str))], fun _ => zuk⟩
noncomputable abbrev ztg : Sig := ⟨76, [], [z06], fun _ => zm3⟩
noncomputable abbrev zth : Sig := ⟨77, [], [(.slice z03)], fun _ => zm4⟩
noncomputable abbrev zcw : Sig := ⟨15, [], [.bool], fun _ => z7b⟩
noncomputable abbrev z5b : Sig := ⟨20, [(.int .i64), (.int .i64), (.int .i64)], [.bool], fun x => z1q x.1 x.2.1 x.2.2⟩
noncomputable abbrev zk7 : Sig := ⟨78, [.str], [.bool], fun x => zi4 x⟩
noncomputable abbrev zeo : Sig := ⟨79, [(.int .i64)], [.bool], fun x => zav x⟩
noncomputable abbrev zmw : Sig := ⟨17, [z0i], [(.int .i64)], fun x => zff x⟩
noncomputable abbrev zni : Sig := ⟨96, [(.int .i64), (.int .i64)], [(.int .i64)], fun x => zmb x.1 x.2⟩
end Go.Lift
