/-
  The types, notes and signatures of these functions.
-/
import Derived.Test.YtbmclapepgfjhaaGreatFunF
import Derived.Test.YtbmclapepgfjhaaGreatLiftL
import Derived.Lib.ItoaNum
import Derived.KernelRfl
import Derived.Test.YtbmclapepgfjhaaGreatProg
set_option linter.unusedSectionVars false
set_option linter.unusedVariables false
set_option linter.unusedSimpArgs false
namespace Go.Lift
open Go Go.Proofs
instance : Tab := tabsOf []
def zpl : List (Nat × Ty) := [
 (2, (.int .i64)),
 (3, (.int .i64)),
 (4, .bool),
 (5, (.int .u8)),
 (6, (.int .u8)),
 (7, zb7),
 (8, zb7),
 (9, .str),
 (10, .str),
 (11, .str),
 (12, (.int .u64)),
 (13, z6p),
 (14, z6p),
 (21, (.int .i32)),
 (22, z07),
 (23, z07),
 (24, (.slice z04)),
 (25, (.slice (.int .i64))),
 (26, z2q),
 (27, z2q),
 (31, (.int .i64)),
 (34, (.fn (.slice z04) (.slice z04))),
 (37, (.fn (.slice (.int .i64)) (.slice (.int .i64)))),
 (39, z09),
 (40, z09),
 (43, (.fn z07 (.int .i64))),
 (46, (.slice (.slice .str))),
 (47, (.slice .str)),
 (48, z4l),
 (49, z4l),
 (50, (.fn (.slice (.slice .str)) (.int .i64))),
 (52, (.slice z09)),
 (55, (.fn (.slice (.slice .str)) (.slice (.slice .str)))),
 (56, (.fn (.slice .str) (.slice .str))),
 (58, (.fn (.slice z09) (.slice z09))),
 (63, z09),
 (64, z09),
 (67, (.fn z4l .bool)),
 (68, z04),
 (69, z04),
 (71, (.fn (.slice z04) (.int .i64))),
 (72, z05),
 (73, z05),
 (76, (.seq (.slice (.int .i64)))),
 (77, (.fn (.slice (.int .i64)) (.seq (.slice (.int .i64))))),
 (78, (.fn (.int .i64) (.slice (.int .i64)))),
 (79, (.fn (.slice (.int .i64)) (.int .i64))),
 (81, (.fn (.int .i64) .bool)),
 (82, (.fn (.slice (.int .i64)) (.int .i64))),
 (84, (.fn (.seq (.int .i64)) (.slice (.int .i64)))),
 (85, (.seq (.int .i64))),
 (86, (.seq (.int .i64))),
 (87, (.fn (.slice (.int .i64)) (.seq (.int .i64)))),
 (91, (.fn (.slice (.int .i64)) .bool)),
 (96, (.slice (.slice .str))),
 (101, za7),
 (102, za7),
 (103, (.fn z09 (.int .i64))),
 (104, (.fn (.int .i64) .str)),
 (105, (.fn z09 za7)),
 (109, (.fn z04 .bool)),
 (110, (.fn z07 (.int .i64))),
 (114, (.slice (.int .i64))),
 (118, (.seq z09)),
 (119, (.fn (.slice (.int .i64)) (.seq z09))),
 (120, (.fn .str .bool)),
 (122, (.fn (.slice .str) .bool)),
 (123, (.mapT .str .bool)),
 (126, (.slice za7)),
 (129, (.seq z09)),
 (136, (.arr 5 .bool)),
 (139, (.slice .bool)),
 (140, (.fn (.int .i64) (.int .i64))),
 (143, (.fn (.int .u64) (.int .i64))),
 (144, (.int .u64)),
 (145, (.fn z09 .bool)),
 (149, (.fn z09 .bool)),
 (153, (.int .i64)),
 (161, (.fn (.int .u32) (.int .i64))),
 (162, (.int .u32)),
 (163, (.fn (.int .u64) (.int .i64))),
 (164, (.int .u64)),
 (166, (.slice (.int .u8))),
 (171, .err),
 (174, (.int .u64)),
 (175, (.fn (.int .i64) (.int .u64))),
 (185, (.fn (.int .i64) (.slice (.int .u8)))),
 (192, (.int .u8)),
 (193, (.int .u8)),
 (195, (.int .i32)),
 (196, (.int .i32))]
def ztq : List (Nat × Nat) := [(7, 4), (8, 4), (13, 2), (14, 2), (22, 9), (23, 9), (26, 2), (27, 2), (39, 2), (40, 2), (48, 2), (49, 2), (63, 2), (64, 2), (68, 4), (69, 4), (72, 2), (73, 2), (101, 4), (102, 4)]
def zu6 : List Nat := [9]
theorem z0q : zw0 Tryz.prog zpl = true := by kernel_rfl
theorem z0r : zwk Tryz.prog zpl ztq = true := by kernel_rfl
theorem z0s : zx5 Tryz.prog zpl zu6 = true := by kernel_rfl
theorem z03 : Tryz.prog.follows .mixedOrders = true := by kernel_rfl
abbrev cx (own : List Nat) (l : List Sig) : Ctx := cxOf zpl ztq zu6 own l
abbrev cxM (own : List Nat) (l : List Sig) : Ctx := @cxOf mfOn zpl ztq zu6 own l
def zeb : Ann := (.seq .nil (.seq (.seq .nil (.blk (.loopBD ⟨[⟨false, 7, 0, (.int .i64), [], false⟩], []⟩ ⟨[], []⟩ 0 .nil))) .nil))
def zd6 : Ann := .nil
def z4e : Ann := (.seq .nil (.seq (.seq .nil (.blk (.loopBD ⟨[⟨false, 8, 0, (.int .i64), [], false⟩], []⟩ ⟨[], []⟩ 0 .nil))) .nil))
def z3m : Ann := .nil
def zd5 : Ann := .nil
def zc7 : Ann := .nil
def z90 : Ann := .nil
def zc8 : Ann := .nil
def zd7 : Ann := .nil
def z8v : Ann := (.seq .nil (.seq (.seq .nil (.blk (.loopBD ⟨[⟨false, 8, 0, (.int .i64), [], false⟩], []⟩ ⟨[], []⟩ 0 .nil))) .nil))
def z76 : Ann := .nil
def z79 : Ann := .nil
def z8e : Ann := (.seq .nil (.seq (.frz 2 .nil) .nil))
def z9n : Ann := .nil
def zf7 : Ann := .nil
def zc6 : Ann := (.seq .nil (.seq .nil (.seq (.seq .nil (.blk (.loopB ⟨[⟨false, 3, 0, (.slice (.int .i64)), [([], some 101000300)], false⟩, ⟨false, 6, 0, (.int .i64), [], false⟩], []⟩ ⟨[⟨false, 3, 0, (.slice (.int .i64)), [([], some 201000300)], false⟩], []⟩ 0 .nil))) .nil)))
def zf6 : Ann := .nil
def z78 : Ann := (.seq .nil (.seq .nil (.seq .nil (.seq (.seq .nil (.blk (.loopB ⟨[⟨false, 8, 0, (.int .i64), [], false⟩, ⟨false, 19, 0, (.int .i64), [], false⟩], [3, 6, 7]⟩ ⟨[⟨false, 8, 0, (.int .i64), [], false⟩], [3, 6, 7]⟩ 0 .nil))) (.seq .nil (.seq .nil (.seq .nil (.seq .nil (.seq (.seq .nil (.join ⟨[⟨true, 7, 136, (.arr 5 .bool), [], false⟩], [3, 6, 11, 12]⟩ .nil .nil)) .nil)))))))))
def zb5 : Ann := (.seq .nil (.seq (.seq .nil (.blk (.loopBD ⟨[⟨false, 8, 0, (.int .i64), [], false⟩], []⟩ ⟨[], []⟩ 0 .nil))) .nil))
def z8w : Ann := .nil
def zc5 : Ann := (.seq .nil (.seq (.seq .nil (.blk (.loopBD ⟨[⟨false, 8, 0, (.int .i64), [], false⟩], []⟩ ⟨[], []⟩ 0 .nil))) .nil))
def z9j : Ann := .nil
def z9m : Ann := .nil
def z8y : Ann := (.seq .nil (.seq .nil (.seq (.seq .nil (.blk (.loopB ⟨[⟨false, 5, 0, (.int .i64), [], false⟩, ⟨false, 6, 0, (.int .i64), [], false⟩], [2]⟩ ⟨[⟨false, 5, 0, (.int .i64), [], false⟩], [2]⟩ 0 .nil))) .nil)))
def zap : Ann := .nil
def z9l : Ann := (.seq .nil (.seq .nil (.seq (.blk (.loopB ⟨[⟨false, 5, 0, (.slice (.int .i64)), [([], some 2201000500)], false⟩, ⟨false, 6, 0, (.int .i64), [], false⟩], [2]⟩ ⟨[⟨false, 6, 0, (.int .i64), [], false⟩], [2]⟩ 0 (.seq .nil (.blk (.seq .nil (.seq (.seq .nil (.blk (.loopB ⟨[⟨false, 7, 0, (.int .i64), [], false⟩, ⟨false, 8, 0, (.int .i64), [], false⟩, ⟨false, 22, 0, (.int .i64), [], false⟩], [2, 2201000500]⟩ ⟨[⟨false, 7, 0, (.int .i64), [], false⟩, ⟨false, 8, 0, (.int .i64), [], false⟩], [2, 2201000500]⟩ 2 (.seq .nil (.seq .nil (.seq (.blk (.seq .nil (.seq .nil (.blk (.loopB ⟨[⟨false, 7, 0, (.int .i64), [], false⟩, ⟨false, 8, 0, (.int .i64), [], false⟩, ⟨false, 29, 0, (.int .i64), [], false⟩], [2, 2201000500]⟩ ⟨[⟨false, 7, 0, (.int .i64), [], false⟩, ⟨false, 8, 0, (.int .i64), [], false⟩], [2, 2201000500]⟩ 4 (.seq .nil (.seq .nil (.seq (.blk (.seq .nil (.seq .nil (.seq .nil (.join ⟨[⟨false, 7, 0, (.int .i64), [], false⟩, ⟨false, 8, 0, (.int .i64), [], false⟩], [2, 2201000500]⟩ .nil .nil))))) .nil)))))))) .nil)))))) .nil)))))) .nil)))
def zc9 : Ann := (.seq .nil (.seq .nil (.seq .nil (.seq .nil (.seq .nil (.seq .nil (.seq (.seq .nil (.blk (.loopB ⟨[⟨false, 11, 0, (.int .i64), [], false⟩, ⟨false, 44, 0, (.int .i64), [], false⟩], [3, 8, 34]⟩ ⟨[⟨false, 11, 0, (.int .i64), [], false⟩], [3, 8, 34]⟩ 0 .nil))) .nil)))))))
def zpi : Ann := (.seq .nil (.seq .nil (.seq (.seq .nil (.blk (.loopBD ⟨[⟨false, 5, 0, (.int .i64), [], false⟩], []⟩ ⟨[], []⟩ 0 .nil))) .nil)))
def z9k : Ann := (.seq .nil (.seq .nil (.seq (.seq .nil (.blk (.loopB ⟨[⟨false, 3, 0, (.slice (.slice .str)), [([], some 101000300)], false⟩, ⟨false, 8, 0, (.int .i64), [], false⟩], []⟩ ⟨[⟨false, 3, 0, (.slice (.slice .str)), [([], some 201000300)], false⟩], []⟩ 0 .nil))) .nil)))
def zd8 : Ann := (.seq .nil (.seq (.seq .nil (.blk (.loopBD ⟨[⟨false, 9, 0, (.int .i64), [], false⟩], []⟩ ⟨[], []⟩ 0 .nil))) .nil))
def zao : Ann := (.seq .nil (.seq .nil (.seq .nil (.seq (.seq .nil (.blk (.loopBD ⟨[⟨false, 27, 0, (.int .i64), [], false⟩, ⟨true, 24, 123, (.mapT .str .bool), [], true⟩], [19]⟩ ⟨[⟨true, 24, 123, (.mapT .str .bool), [], true⟩], [19]⟩ 0 (.seq .nil (.seq .nil (.seq (.blk (.seq .nil (.seq .nil (.seq .nil (.blk (.loopBD ⟨[⟨false, 38, 0, (.int .i64), [], false⟩, ⟨true, 24, 123, (.mapT .str .bool), [], true⟩], [19]⟩ ⟨[⟨true, 24, 123, (.mapT .str .bool), [], true⟩], [19]⟩ 2 .nil)))))) .nil)))))) .nil))))
def zb6 : Ann := .nil
def z75 : Ann := (.seq .nil (.seq (.seq .nil (.blk (.loopBD ⟨[⟨false, 8, 0, (.int .i64), [], false⟩], []⟩ ⟨[], []⟩ 0 .nil))) .nil))
def z5v : Ann := .nil
def z9i : Ann := (.seq .nil (.seq (.seq .nil (.blk (.loopBD ⟨[⟨false, 8, 0, (.int .i64), [], false⟩], []⟩ ⟨[], []⟩ 0 .nil))) .nil))
def z7r : Ann := .nil
def z7t : Ann := .nil
def z8z : Ann := (.seq .nil (.seq .nil (.seq .nil (.seq (.seq .nil (.blk (.loopBD ⟨[⟨false, 22, 0, (.int .i64), [], false⟩], []⟩ ⟨[], []⟩ 0 (.seq .nil (.seq .nil (.seq (.blk (.seq .nil (.seq (.frz 9 .nil) .nil))) .nil)))))) .nil))))
def z5o : Ann := (.seq .nil (.seq (.seq .nil (.blk (.loopBD ⟨[⟨false, 8, 0, (.int .i64), [], false⟩], []⟩ ⟨[], []⟩ 0 .nil))) .nil))
def z56 : Ann := .nil
def zea : Ann := .nil
def z6n : Ann := .nil
def z7s : Ann := (.seq .nil (.seq (.frz 3 .nil) (.seq (.seq .nil (.blk (.loopB ⟨[⟨false, 5, 0, (.slice .str), [([], some 801000500)], false⟩, ⟨false, 12, 0, (.int .i64), [], false⟩], []⟩ ⟨[⟨false, 5, 0, (.slice .str), [([], some 1601000500)], false⟩], []⟩ 0 (.seq .nil (.seq .nil (.seq (.blk (.seq .nil (.seq .nil (.blk (.loopB ⟨[⟨false, 5, 0, (.slice .str), [([], some 1901000500)], false⟩, ⟨false, 18, 0, (.int .i64), [], false⟩], []⟩ ⟨[⟨false, 5, 0, (.slice .str), [([], some 2201000500)], false⟩], []⟩ 2 (.seq .nil (.seq .nil (.seq (.blk (.seq .nil (.seq (.frz 9 .nil) (.join ⟨[⟨false, 5, 0, (.slice .str), [([], some 2301000500)], false⟩], []⟩ .nil .nil)))) .nil)))))))) .nil)))))) .nil)))
def zaq : Ann := .nil
def zns : Ann := (.seq .nil (.seq .nil (.seq (.seq .nil (.blk (.loopBD ⟨[⟨false, 5, 0, (.int .i64), [], false⟩], []⟩ ⟨[], []⟩ 0 .nil))) .nil)))
def z77 : Ann := .nil
def zl3 : Ann := .nil
def zhr : Ann := .nil
def zjw : Ann := .nil
def zhs : Ann := (.seq .nil (.seq .nil (.seq .nil (.seq (.seq .nil (.blk (.loopBD ⟨[⟨false, 3, 0, (.int .i64), [], false⟩], []⟩ ⟨[], []⟩ 0 .nil))) .nil))))
def zjx : Ann := .nil
def zgo : Ann := (.seq .nil (.seq .nil (.seq (.seq .nil (.blk (.loopBD ⟨[⟨false, 5, 0, (.int .i64), [], false⟩], []⟩ ⟨[], []⟩ 0 .nil))) .nil)))
def zgp : Ann := .nil
def za6 : Ann := .nil
def zt2 : Ann := (.seq .nil (.seq (.seq .nil (.blk (.loopBD ⟨[⟨false, 5, 0, (.int .i64), [], false⟩], []⟩ ⟨[], []⟩ 0 .nil))) .nil))
def ze9 : Ann := (.seq .nil (.seq (.seq .nil (.blk (.loopBD ⟨[⟨false, 5, 0, (.int .i64), [], false⟩], []⟩ ⟨[], []⟩ 0 .nil))) .nil))
def z8d : Ann := (.seq .nil (.seq .nil (.seq .nil (.seq (.seq .nil (.blk (.loopBD ⟨[⟨false, 25, 0, (.int .i64), [], false⟩], [3, 6, 8]⟩ ⟨[], [3, 6, 8]⟩ 0 .nil))) .nil))))
def z6o : Ann := (.seq .nil (.seq (.seq .nil (.blk (.loopD ⟨[], [2, 4, 5]⟩ .nil))) .nil))
def z8x : Ann := .nil
def z91 : Ann := .nil
def zd9 : Ann := .nil
def z5i : Ann := (.seq .nil (.seq .nil (.seq .nil (.seq .nil (.seq .nil (.seq .nil (.seq .nil (.seq .nil (.seq (.seq .nil (.blk (.loopBD ⟨[⟨false, 11, 0, (.slice (.int .i64)), [([], some 101001100)], false⟩, ⟨false, 12, 0, (.int .i64), [], false⟩], [2, 3]⟩ ⟨[⟨false, 11, 0, (.slice (.int .i64)), [([], some 201001100)], false⟩], [2, 3]⟩ 0 .nil))) (.seq (.seq .nil (.joinD ⟨[], [2, 3, 201001100]⟩ .nil .nil)) (.seq .nil (.seq .nil (.seq .nil (.seq (.seq .nil (.blk (.loopB ⟨[⟨false, 21, 0, (.slice (.int .i64)), [([], some 501002100)], false⟩, ⟨false, 22, 0, (.int .i64), [], false⟩], [2, 3, 20, 201001100]⟩ ⟨[⟨false, 21, 0, (.slice (.int .i64)), [([], some 601002100)], false⟩], [2, 3, 20, 201001100]⟩ 2 .nil))) (.seq (.seq .nil (.joinD ⟨[], [2, 3, 20, 201001100, 601002100]⟩ .nil .nil)) .nil)))))))))))))))
noncomputable abbrev z2j : Sig := ⟨78, [z05, (.slice (.int .i64))], [(.seq z09)], fun x => z27 x.1 x.2⟩
noncomputable abbrev z2o : Sig := ⟨34, [z05, (.slice (.int .i64))], [(.seq (.slice (.int .i64)))], fun x => z11 x.1 x.2⟩
noncomputable abbrev z4h : Sig := ⟨108, [(.slice .str)], [(.slice .str)], fun x => slices_Clone_string x⟩
noncomputable abbrev z57 : Sig := ⟨43, [(.slice (.int .i64))], [(.seq (.int .i64))], fun x => z34 x⟩
noncomputable abbrev z58 : Sig := ⟨42, [(.seq (.int .i64))], [(.slice (.int .i64))], fun x => z2e x⟩
noncomputable abbrev z2s : Sig := ⟨8, [z07, (.slice z04)], [(.slice (.int .i64)), (.int .i64), (.int .i64)], fun x => z0x x.1 x.2⟩
noncomputable abbrev z2z : Sig := ⟨13, [z07, (.slice z04), (.slice (.int .i64))], [(.int .i64), (.int .i64)], fun x => z0z x.1 x.2.1 x.2.2⟩
noncomputable abbrev z35 : Sig := ⟨40, [(.slice (.int .i64))], [(.int .i64)], fun x => z1a x⟩
noncomputable abbrev z1j : Sig := ⟨41, [.bool, (.int .i64)], [(.int .i64)], fun x => z0c x.1 x.2⟩
noncomputable abbrev z49 : Sig := ⟨94, [(.slice z04), (.fn z04 .bool)], [(.int .i64)], fun x => z0v x.1 x.2⟩
noncomputable abbrev z3h : Sig := ⟨62, [(.slice z04), (.fn z04 .bool)], [.bool], fun x => z0g x.1 x.2⟩
noncomputable abbrev z19 : Sig := ⟨39, [(.int .i64), (.int .i64), (.int .i64)], [.bool], fun x => z0n x.1 x.2.1 x.2.2⟩
noncomputable abbrev zbo : Sig := ⟨64, [(.int .i64)], [.bool], fun x => z4p x⟩
noncomputable abbrev z8m : Sig := ⟨65, [(.int .i64)], [.bool], fun x => z2u x⟩
noncomputable abbrev zbp : Sig := ⟨66, [(.int .i64)], [.bool], fun x => z4q x⟩
noncomputable abbrev zcp : Sig := ⟨63, [z04], [.bool], fun x => z5g x⟩
noncomputable abbrev z8k : Sig := ⟨71, [(.slice (.int .i64)), (.fn (.int .i64) .bool)], [(.int .i64)], fun x => z1y x.1 x.2⟩
noncomputable abbrev z4i : Sig := ⟨37, [(.slice (.int .i64)), (.fn (.int .i64) .bool)], [.bool], fun x => z14 x.1 x.2⟩
noncomputable abbrev z72 : Sig := ⟨96, [(.int .i64), (.ptr (.int .i64))], [.bool], fun x => z1w x.1 x.2⟩
noncomputable abbrev z8a : Sig := ⟨95, [(.int .i64), (.slice (.int .i64))], [.bool], fun x => z0t x.1 x.2⟩
noncomputable abbrev z9e : Sig := ⟨67, [z07], [(.int .i64)], fun x => z2d x⟩
noncomputable abbrev z7w : Sig := ⟨33, [z07, (.slice z04)], [z05, (.int .i64)], fun x => z3c x.1 x.2⟩
noncomputable abbrev zbn : Sig := ⟨35, [(.int .i64)], [(.slice (.int .i64))], fun x => z2v x⟩
noncomputable abbrev zas : Sig := ⟨99, [(.int .i64)], [(.int .i64)], fun x => z3b x⟩
noncomputable abbrev z2x : Sig := ⟨97, [z05, (.slice (.int .i64)), (.int .i64)], [(.arr 5 .bool)], fun x => z0p x.1 x.2.1 x.2.2⟩
noncomputable abbrev zb2 : Sig := ⟨111, [(.slice .bool), .bool], [(.int .i64)], fun x => z43 x.1 x.2⟩
noncomputable abbrev z3v : Sig := ⟨98, [(.slice .bool), .bool], [.bool], fun x => z1i x.1 x.2⟩
noncomputable abbrev zbm : Sig := ⟨75, [(.slice (.int .i64)), (.int .i64)], [(.int .i64)], fun x => slices_Index_int x.1 x.2⟩
noncomputable abbrev z2y : Sig := ⟨47, [(.slice (.int .i64)), (.int .i64)], [.bool], fun x => slices_Contains_int x.1 x.2⟩
noncomputable abbrev z5z : Sig := ⟨70, [z05, (.int .i64), (.int .i64)], [(.int .i64)], fun x => z1e x.1 x.2.1 x.2.2⟩
noncomputable abbrev z2n : Sig := ⟨36, [z05, (.slice (.int .i64))], [(.int .i64)], fun x => z0i x.1 x.2⟩
noncomputable abbrev za9 : Sig := ⟨38, [(.int .i64)], [.bool], fun x => z3l x⟩
noncomputable abbrev z9d : Sig := ⟨44, [z05, (.slice (.int .i64))], [(.int .i64)], fun x => z2c x.1 x.2⟩
noncomputable abbrev z80 : Sig := ⟨10, [z07, (.slice z04), (.slice (.int .i64))], [(.int .i64), (.int .i64)], fun x => z1u x.1 x.2.1 x.2.2⟩
noncomputable abbrev zk0 : Sig := ⟨18, [(.slice (.int .i64)), (.slice (.int .i64))], [.bool], fun x => zaz x.1 x.2⟩
noncomputable abbrev z9c : Sig := ⟨88, [(.slice (.slice .str))], [(.slice (.slice .str))], fun x => z4d x⟩
noncomputable abbrev zcq : Sig := ⟨110, [.str], [.bool], fun x => z6l x⟩
noncomputable abbrev za8 : Sig := ⟨93, [(.slice (.slice .str))], [(.int .i64), (.int .i64)], fun x => z4u x⟩
noncomputable abbrev zb3 : Sig := ⟨59, [(.slice (.slice .str))], [(.slice (.slice .str)), (.int .i64)], fun x => z5h x⟩
noncomputable abbrev z70 : Sig := ⟨105, [(.slice (.slice .str)), (.fn (.slice .str) .bool)], [(.int .i64)], fun x => z2m x.1 x.2⟩
noncomputable abbrev z5t : Sig := ⟨80, [(.slice (.slice .str)), (.fn (.slice .str) .bool)], [.bool], fun x => z1x x.1 x.2⟩
noncomputable abbrev z5y : Sig := ⟨106, [(.slice .str), .str], [(.int .i64)], fun x => slices_Index_string x.1 x.2⟩
noncomputable abbrev z38 : Sig := ⟨82, [(.slice .str), .str], [.bool], fun x => slices_Contains_string x.1 x.2⟩
noncomputable abbrev z7j : Sig := ⟨81, [(.slice .str), (.ptr .str)], [.bool], fun x => z33 x.1 x.2⟩
noncomputable abbrev z8l : Sig := ⟨53, [(.slice (.slice .str)), (.slice .str)], [(.slice (.slice .str)), (.int .i64)], fun x => z3r x.1 x.2⟩
noncomputable abbrev z5m : Sig := ⟨109, [(.slice .str), (.fn .str .bool)], [(.int .i64)], fun x => z1q x.1 x.2⟩
noncomputable abbrev z55 : Sig := ⟨90, [(.slice .str), (.fn .str .bool)], [.bool], fun x => z1g x.1 x.2⟩
noncomputable abbrev zdr : Sig := ⟨92, [(.slice .str), .str, .str], [.bool], fun x => z7q x.1 x.2.1 x.2.2⟩
noncomputable abbrev z6d : Sig := ⟨91, [.str, (.ptr (.slice .str)), (.ptr .str)], [.bool], fun x => z2h x.1 x.2.1 x.2.2⟩
noncomputable abbrev z7i : Sig := ⟨58, [(.slice (.slice .str)), (.slice .str)], [(.slice .str)], fun x => z32 x.1 x.2⟩
noncomputable abbrev zaa : Sig := ⟨27, [(.slice (.slice .str)), (.slice .str)], [(.slice .str), (.int .i64)], fun x => z4v x.1 x.2⟩
noncomputable abbrev zm5 : Sig := ⟨31, [(.slice .str), (.slice .str)], [.bool], fun x => zjt x.1 x.2⟩
noncomputable abbrev z71 : Sig := ⟨5, [], [.bool], fun _ => z1d⟩
noncomputable abbrev z6e : Sig := ⟨14, [(.int .i64), (.int .i64), (.int .i64)], [.bool], fun x => z1t x.1 x.2.1 x.2.2⟩
noncomputable abbrev zda : Sig := ⟨17, [z07], [(.int .i64)], fun x => z9r x⟩
noncomputable abbrev zis : Sig := ⟨61, [(.int .i64)], [.bool], fun x => zh0 x⟩
noncomputable abbrev zhk : Sig := ⟨32, [(.slice z04)], [(.int .i64)], fun x => zbt x⟩
noncomputable abbrev zit : Sig := ⟨6, [z07, (.slice z04)], [(.int .i64)], fun x => zdu x.1 x.2⟩
noncomputable abbrev zft : Sig := ⟨7, [(.slice z04), (.slice (.int .i64))], [(.int .i64)], fun x => z6g x.1 x.2⟩
noncomputable abbrev zfu : Sig := ⟨9, [(.slice z04)], [(.slice z04)], fun x => z20 x⟩
noncomputable abbrev za4 : Sig := ⟨11, [(.slice (.int .i64))], [(.slice (.int .i64))], fun x => z2p x⟩
noncomputable abbrev zr8 : Sig := ⟨45, [(.slice (.int .i64)), (.int .i64)], [.bool], fun x => zsy x.1 x.2⟩
noncomputable abbrev zdq : Sig := ⟨12, [(.slice z04), (.slice (.int .i64))], [(.int .i64)], fun x => z5w x.1 x.2⟩
noncomputable abbrev z2f : Sig := ⟨46, [z07, (.slice z04), (.slice (.int .i64))], [z05, (.int .i64)], fun x => z1c x.1 x.2.1 x.2.2⟩
noncomputable abbrev z4a : Sig := ⟨51, [z05, (.slice (.int .i64))], [z09, .bool], fun x => z1p x.1 x.2⟩
noncomputable abbrev z3w : Sig := ⟨50, [z05, (.slice (.int .i64))], [.bool], fun x => z2t x.1 x.2⟩
noncomputable abbrev z8n : Sig := ⟨15, [z07, (.slice z04), (.slice (.int .i64))], [z09, (.int .i64)], fun x => z3s x.1 x.2.1 x.2.2⟩
noncomputable abbrev zcr : Sig := ⟨16, [z07, (.slice z04), (.slice (.int .i64))], [(.int .i64), (.int .i64)], fun x => z6m x.1 x.2.1 x.2.2⟩
noncomputable abbrev z59 : Sig := ⟨3, [z07, z2q], [.bool], fun x => z1l x.1 x.2⟩
end Go.Lift
