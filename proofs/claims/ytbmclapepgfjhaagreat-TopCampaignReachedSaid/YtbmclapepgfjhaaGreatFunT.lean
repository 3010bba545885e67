/-
  The types, notes and signatures of these functions.
-/
import Derived.Test.YtbmclapepgfjhaaGreatFunF
import Derived.Test.YtbmclapepgfjhaaGreatLiftL
import Derived.Lib.ItoaNum
import Derived.KernelRfl
import Derived.Test.YtbmclapepgfjhaaGreatProg
set_option linter.unusedSectionVars false
set_option linter.unusedVariables false
set_option linter.unusedSimpArgs false
namespace Go.Lift
open Go Go.Proofs
instance : Tab := tabsOf []
def zvb : List (Nat × Ty) := [
 (2, (.int .i64)),
 (3, (.int .i64)),
 (4, .bool),
 (5, (.int .u8)),
 (6, (.int .u8)),
 (7, zbt),
 (8, zbt),
 (9, .str),
 (10, .str),
 (11, .str),
 (12, (.int .u64)),
 (13, z6o),
 (14, z6o),
 (21, (.int .i32)),
 (22, z0p),
 (23, z0p),
 (24, (.slice z0a)),
 (25, (.slice (.int .i64))),
 (26, z9j),
 (27, z9j),
 (31, (.int .i64)),
 (34, (.fn (.slice z0a) (.slice z0a))),
 (37, (.fn (.slice (.int .i64)) (.slice (.int .i64)))),
 (39, z00),
 (40, z00),
 (43, (.fn z0p (.int .i64))),
 (46, (.slice (.slice .str))),
 (47, (.slice .str)),
 (48, z1j),
 (49, z1j),
 (50, (.fn (.slice (.slice .str)) (.int .i64))),
 (52, (.slice z00)),
 (55, (.fn (.slice (.slice .str)) (.slice (.slice .str)))),
 (56, (.fn (.slice .str) (.slice .str))),
 (58, (.fn (.slice z00) (.slice z00))),
 (63, z00),
 (64, z00),
 (67, (.fn z1j .bool)),
 (68, z0a),
 (69, z0a),
 (71, (.fn (.slice z0a) (.int .i64))),
 (72, z0c),
 (73, z0c),
 (76, (.seq (.slice (.int .i64)))),
 (77, (.fn (.slice (.int .i64)) (.seq (.slice (.int .i64))))),
 (78, (.fn (.int .i64) (.slice (.int .i64)))),
 (79, (.fn (.slice (.int .i64)) (.int .i64))),
 (81, (.fn (.int .i64) .bool)),
 (82, (.fn (.slice (.int .i64)) (.int .i64))),
 (84, (.fn (.seq (.int .i64)) (.slice (.int .i64)))),
 (85, (.seq (.int .i64))),
 (86, (.seq (.int .i64))),
 (87, (.fn (.slice (.int .i64)) (.seq (.int .i64)))),
 (91, (.fn (.slice (.int .i64)) .bool)),
 (96, (.slice (.slice .str))),
 (101, z07),
 (102, z07),
 (103, (.fn z00 (.int .i64))),
 (104, (.fn (.int .i64) .str)),
 (105, (.fn z00 z07)),
 (109, (.fn z0a .bool)),
 (110, (.fn z0p (.int .i64))),
 (114, (.slice (.int .i64))),
 (118, (.seq z00)),
 (119, (.fn (.slice (.int .i64)) (.seq z00))),
 (120, (.fn .str .bool)),
 (122, (.fn (.slice .str) .bool)),
 (123, (.mapT .str .bool)),
 (126, (.slice z07)),
 (129, (.seq z00)),
 (136, (.arr 5 .bool)),
 (139, (.slice .bool)),
 (140, (.fn (.int .i64) (.int .i64))),
 (143, (.fn (.int .u64) (.int .i64))),
 (144, (.int .u64)),
 (145, (.fn z00 .bool)),
 (149, (.fn z00 .bool)),
 (153, (.int .i64)),
 (161, (.fn (.int .u32) (.int .i64))),
 (162, (.int .u32)),
 (163, (.fn (.int .u64) (.int .i64))),
 (164, (.int .u64)),
 (166, (.slice (.int .u8))),
 (171, .err),
 (174, (.int .u64)),
 (175, (.fn (.int .i64) (.int .u64))),
 (185, (.fn (.int .i64) (.slice (.int .u8)))),
 (192, (.int .u8)),
 (193, (.int .u8)),
 (195, (.int .i32)),
 (196, (.int .i32))]
def y1z : List (Nat × Nat) := [(7, 4), (8, 4), (13, 2), (14, 2), (22, 9), (23, 9), (26, 2), (27, 2), (39, 2), (40, 2), (48, 2), (49, 2), (63, 2), (64, 2), (68, 4), (69, 4), (72, 2), (73, 2), (101, 4), (102, 4)]
def y2q : List Nat := [9]
theorem z0z : y3k Tryz.prog zvb = true := by kernel_rfl
theorem z10 : y4h Tryz.prog zvb y1z = true := by kernel_rfl
theorem z11 : y4w Tryz.prog zvb y2q = true := by kernel_rfl
theorem z04 : Tryz.prog.follows .mixedOrders = true := by kernel_rfl
abbrev cx (own : List Nat) (l : List Sig) : Ctx := cxOf zvb y1z y2q own l
abbrev cxM (own : List Nat) (l : List Sig) : Ctx := @cxOf mfOn zvb y1z y2q own l
def zf6 : Ann := (.seq .nil (.seq (.seq .nil (.blk (.loopBD ⟨[⟨false, 7, 0, (.int .i64), [], false⟩], []⟩ ⟨[], []⟩ 0 .nil))) .nil))
def ze5 : Ann := .nil
def z4e : Ann := (.seq .nil (.seq (.seq .nil (.blk (.loopBD ⟨[⟨false, 8, 0, (.int .i64), [], false⟩], []⟩ ⟨[], []⟩ 0 .nil))) .nil))
def z3n : Ann := .nil
def ze4 : Ann := .nil
def zd0 : Ann := .nil
def z9i : Ann := .nil
def zd1 : Ann := .nil
def ze6 : Ann := .nil
def z9e : Ann := (.seq .nil (.seq (.seq .nil (.blk (.loopBD ⟨[⟨false, 8, 0, (.int .i64), [], false⟩], []⟩ ⟨[], []⟩ 0 .nil))) .nil))
def z7c : Ann := .nil
def z7h : Ann := .nil
def z8t : Ann := (.seq .nil (.seq (.frz 2 .nil) .nil))
def za6 : Ann := .nil
def zg6 : Ann := .nil
def zcz : Ann := (.seq .nil (.seq .nil (.seq (.seq .nil (.blk (.loopB ⟨[⟨false, 3, 0, (.slice (.int .i64)), [([], some 101000300)], false⟩, ⟨false, 6, 0, (.int .i64), [], false⟩], []⟩ ⟨[⟨false, 3, 0, (.slice (.int .i64)), [([], some 201000300)], false⟩], []⟩ 0 .nil))) .nil)))
def zg5 : Ann := .nil
def z7g : Ann := (.seq .nil (.seq .nil (.seq .nil (.seq (.seq .nil (.blk (.loopB ⟨[⟨false, 8, 0, (.int .i64), [], false⟩, ⟨false, 19, 0, (.int .i64), [], false⟩], [3, 6, 7]⟩ ⟨[⟨false, 8, 0, (.int .i64), [], false⟩], [3, 6, 7]⟩ 0 .nil))) (.seq .nil (.seq .nil (.seq .nil (.seq .nil (.seq (.seq .nil (.join ⟨[⟨true, 7, 136, (.arr 5 .bool), [], false⟩], [3, 6, 11, 12]⟩ .nil .nil)) .nil)))))))))
def zbp : Ann := (.seq .nil (.seq (.seq .nil (.blk (.loopBD ⟨[⟨false, 8, 0, (.int .i64), [], false⟩], []⟩ ⟨[], []⟩ 0 .nil))) .nil))
def z9f : Ann := .nil
def zcy : Ann := (.seq .nil (.seq (.seq .nil (.blk (.loopBD ⟨[⟨false, 8, 0, (.int .i64), [], false⟩], []⟩ ⟨[], []⟩ 0 .nil))) .nil))
def za2 : Ann := .nil
def za5 : Ann := .nil
def z9g : Ann := (.seq .nil (.seq .nil (.seq (.seq .nil (.blk (.loopB ⟨[⟨false, 5, 0, (.int .i64), [], false⟩, ⟨false, 6, 0, (.int .i64), [], false⟩], [2]⟩ ⟨[⟨false, 5, 0, (.int .i64), [], false⟩], [2]⟩ 0 .nil))) .nil)))
def zb7 : Ann := .nil
def za4 : Ann := (.seq .nil (.seq .nil (.seq (.blk (.loopB ⟨[⟨false, 5, 0, (.slice (.int .i64)), [([], some 2201000500)], false⟩, ⟨false, 6, 0, (.int .i64), [], false⟩], [2]⟩ ⟨[⟨false, 6, 0, (.int .i64), [], false⟩], [2]⟩ 0 (.seq .nil (.blk (.seq .nil (.seq (.seq .nil (.blk (.loopB ⟨[⟨false, 7, 0, (.int .i64), [], false⟩, ⟨false, 8, 0, (.int .i64), [], false⟩, ⟨false, 22, 0, (.int .i64), [], false⟩], [2, 2201000500]⟩ ⟨[⟨false, 7, 0, (.int .i64), [], false⟩, ⟨false, 8, 0, (.int .i64), [], false⟩], [2, 2201000500]⟩ 2 (.seq .nil (.seq .nil (.seq (.blk (.seq .nil (.seq .nil (.blk (.loopB ⟨[⟨false, 7, 0, (.int .i64), [], false⟩, ⟨false, 8, 0, (.int .i64), [], false⟩, ⟨false, 29, 0, (.int .i64), [], false⟩], [2, 2201000500]⟩ ⟨[⟨false, 7, 0, (.int .i64), [], false⟩, ⟨false, 8, 0, (.int .i64), [], false⟩], [2, 2201000500]⟩ 4 (.seq .nil (.seq .nil (.seq (.blk (.seq .nil (.seq .nil (.seq .nil (.join ⟨[⟨false, 7, 0, (.int .i64), [], false⟩, ⟨false, 8, 0, (.int .i64), [], false⟩], [2, 2201000500]⟩ .nil .nil))))) .nil)))))))) .nil)))))) .nil)))))) .nil)))
def zd3 : Ann := (.seq .nil (.seq .nil (.seq .nil (.seq .nil (.seq .nil (.seq .nil (.seq (.seq .nil (.blk (.loopB ⟨[⟨false, 11, 0, (.int .i64), [], false⟩, ⟨false, 44, 0, (.int .i64), [], false⟩], [3, 8, 34]⟩ ⟨[⟨false, 11, 0, (.int .i64), [], false⟩], [3, 8, 34]⟩ 0 .nil))) .nil)))))))
def zre : Ann := (.seq .nil (.seq .nil (.seq (.seq .nil (.blk (.loopBD ⟨[⟨false, 5, 0, (.int .i64), [], false⟩], []⟩ ⟨[], []⟩ 0 .nil))) .nil)))
def za3 : Ann := (.seq .nil (.seq .nil (.seq (.seq .nil (.blk (.loopB ⟨[⟨false, 3, 0, (.slice (.slice .str)), [([], some 101000300)], false⟩, ⟨false, 8, 0, (.int .i64), [], false⟩], []⟩ ⟨[⟨false, 3, 0, (.slice (.slice .str)), [([], some 201000300)], false⟩], []⟩ 0 .nil))) .nil)))
def ze7 : Ann := (.seq .nil (.seq (.seq .nil (.blk (.loopBD ⟨[⟨false, 9, 0, (.int .i64), [], false⟩], []⟩ ⟨[], []⟩ 0 .nil))) .nil))
def zb5 : Ann := (.seq .nil (.seq .nil (.seq .nil (.seq (.seq .nil (.blk (.loopBD ⟨[⟨false, 27, 0, (.int .i64), [], false⟩, ⟨true, 24, 123, (.mapT .str .bool), [], true⟩], [19]⟩ ⟨[⟨true, 24, 123, (.mapT .str .bool), [], true⟩], [19]⟩ 0 (.seq .nil (.seq .nil (.seq (.blk (.seq .nil (.seq .nil (.seq .nil (.blk (.loopBD ⟨[⟨false, 38, 0, (.int .i64), [], false⟩, ⟨true, 24, 123, (.mapT .str .bool), [], true⟩], [19]⟩ ⟨[⟨true, 24, 123, (.mapT .str .bool), [], true⟩], [19]⟩ 2 .nil)))))) .nil)))))) .nil))))
def zbr : Ann := .nil
def z7b : Ann := (.seq .nil (.seq (.seq .nil (.blk (.loopBD ⟨[⟨false, 8, 0, (.int .i64), [], false⟩], []⟩ ⟨[], []⟩ 0 .nil))) .nil))
def z5u : Ann := .nil
def za1 : Ann := (.seq .nil (.seq (.seq .nil (.blk (.loopBD ⟨[⟨false, 8, 0, (.int .i64), [], false⟩], []⟩ ⟨[], []⟩ 0 .nil))) .nil))
def z80 : Ann := .nil
def z82 : Ann := .nil
def z9h : Ann := (.seq .nil (.seq .nil (.seq .nil (.seq (.seq .nil (.blk (.loopBD ⟨[⟨false, 22, 0, (.int .i64), [], false⟩], []⟩ ⟨[], []⟩ 0 (.seq .nil (.seq .nil (.seq (.blk (.seq .nil (.seq (.frz 9 .nil) .nil))) .nil)))))) .nil))))
def z5h : Ann := (.seq .nil (.seq (.seq .nil (.blk (.loopBD ⟨[⟨false, 8, 0, (.int .i64), [], false⟩], []⟩ ⟨[], []⟩ 0 .nil))) .nil))
def z4z : Ann := .nil
def zf5 : Ann := .nil
def z6n : Ann := .nil
def z81 : Ann := (.seq .nil (.seq (.frz 3 .nil) (.seq (.seq .nil (.blk (.loopB ⟨[⟨false, 5, 0, (.slice .str), [([], some 801000500)], false⟩, ⟨false, 12, 0, (.int .i64), [], false⟩], []⟩ ⟨[⟨false, 5, 0, (.slice .str), [([], some 1601000500)], false⟩], []⟩ 0 (.seq .nil (.seq .nil (.seq (.blk (.seq .nil (.seq .nil (.blk (.loopB ⟨[⟨false, 5, 0, (.slice .str), [([], some 1901000500)], false⟩, ⟨false, 18, 0, (.int .i64), [], false⟩], []⟩ ⟨[⟨false, 5, 0, (.slice .str), [([], some 2201000500)], false⟩], []⟩ 2 (.seq .nil (.seq .nil (.seq (.blk (.seq .nil (.seq (.frz 9 .nil) (.join ⟨[⟨false, 5, 0, (.slice .str), [([], some 2301000500)], false⟩], []⟩ .nil .nil)))) .nil)))))))) .nil)))))) .nil)))
def zb8 : Ann := .nil
def zpj : Ann := (.seq .nil (.seq .nil (.seq (.seq .nil (.blk (.loopBD ⟨[⟨false, 5, 0, (.int .i64), [], false⟩], []⟩ ⟨[], []⟩ 0 .nil))) .nil)))
def z7e : Ann := .nil
def zlj : Ann := (.seq .nil (.seq (.seq .nil (.blk (.loopBD ⟨[⟨false, 5, 0, (.int .i64), [], false⟩], []⟩ ⟨[], []⟩ 0 .nil))) .nil))
def zmr : Ann := (.seq .nil (.seq .nil (.seq (.seq .nil (.blk (.loopBD ⟨[⟨false, 3, 0, (.int .i64), [], false⟩], []⟩ ⟨[], []⟩ 0 .nil))) .nil)))
def zho : Ann := (.seq .nil (.seq .nil (.seq .nil (.seq .nil (.seq (.seq .nil (.blk (.loopBD ⟨[⟨false, 4, 0, (.slice .str), [([], some 401000400)], false⟩, ⟨false, 5, 0, (.int .i64), [], false⟩], []⟩ ⟨[⟨false, 4, 0, (.slice .str), [([], some 801000400)], false⟩], []⟩ 0 (.seq .nil (.seq (.blk (.seq .nil (.seq .nil (.blk (.loopBD ⟨[⟨false, 4, 0, (.slice .str), [([], some 1001000400)], false⟩, ⟨false, 6, 0, (.int .i64), [], false⟩], []⟩ ⟨[⟨false, 4, 0, (.slice .str), [([], some 1101000400)], false⟩], []⟩ 2 .nil))))) .nil))))) .nil)))))
def zli : Ann := .nil
def zg4 : Ann := (.seq .nil (.seq (.seq .nil (.blk (.loopBD ⟨[⟨false, 5, 0, (.int .i64), [], false⟩], []⟩ ⟨[], []⟩ 0 (.seq .nil (.seq (.blk (.seq .nil (.seq (.seq .nil (.blk (.loopB ⟨[⟨false, 6, 0, .bool, [], false⟩, ⟨false, 7, 0, (.int .i64), [], false⟩], []⟩ ⟨[⟨false, 6, 0, .bool, [], false⟩], []⟩ 2 .nil))) .nil))) .nil))))) .nil))
def z7d : Ann := (.seq .nil (.seq .nil (.seq (.seq .nil (.blk (.loopB ⟨[⟨false, 3, 0, (.int .i64), [], false⟩, ⟨false, 4, 0, (.int .i64), [], false⟩], []⟩ ⟨[⟨false, 3, 0, (.int .i64), [], false⟩], []⟩ 0 .nil))) .nil)))
def z7f : Ann := .nil
def z8s : Ann := (.seq .nil (.seq (.frz 2 .nil) .nil))
def zbs : Ann := (.seq .nil (.seq .nil (.seq (.seq .nil (.blk (.loopB ⟨[⟨false, 3, 0, (.slice .str), [([], some 101000300)], false⟩, ⟨false, 9, 0, (.int .i64), [], false⟩], [1]⟩ ⟨[⟨false, 3, 0, (.slice .str), [([], some 201000300)], false⟩], [1]⟩ 0 .nil))) .nil)))
def zd2 : Ann := .nil
def zhp : Ann := .nil
def zj2 : Ann := (.seq .nil (.seq .nil (.seq (.seq .nil (.blk (.loopB ⟨[⟨false, 3, 0, (.slice (.slice .str)), [([], some 101000300)], false⟩, ⟨false, 4, 0, (.int .i64), [], false⟩], []⟩ ⟨[⟨false, 3, 0, (.slice (.slice .str)), [([], some 201000300)], false⟩], []⟩ 0 .nil))) .nil)))
def zbq : Ann := .nil
def zb6 : Ann := (.seq .nil (.seq .nil (.seq .nil (.seq .nil (.seq (.seq .nil (.blk (.loopBD ⟨[⟨false, 35, 0, (.int .i64), [], false⟩, ⟨true, 10, 102, z07, [], false⟩], [25]⟩ ⟨[⟨true, 10, 102, z07, [], false⟩], [25]⟩ 0 .nil))) .nil)))))
def zj3 : Ann := .nil
def z8r : Ann := (.seq .nil (.seq (.seq .nil (.blk (.loopBD ⟨[⟨false, 5, 0, (.int .i64), [], false⟩], []⟩ ⟨[], []⟩ 0 .nil))) .nil))
def z5b : Ann := (.seq .nil (.seq .nil (.seq .nil (.seq .nil (.seq .nil (.seq .nil (.seq .nil (.seq .nil (.seq (.seq .nil (.blk (.loopBD ⟨[⟨false, 5, 0, (.int .i64), [], false⟩, ⟨false, 7, 0, (.slice (.slice .str)), [], false⟩, ⟨false, 8, 0, (.slice .str), [], false⟩, ⟨false, 9, 0, (.int .i64), [], false⟩], [1]⟩ ⟨[⟨false, 5, 0, (.int .i64), [], false⟩, ⟨false, 7, 0, (.slice (.slice .str)), [], false⟩, ⟨false, 8, 0, (.slice .str), [], false⟩], [1]⟩ 0 (.seq .nil (.seq (.blk (.seq .nil (.seq .nil (.seq .nil (.seq .nil (.seq .nil (.seq (.seq .nil (.joinD ⟨[⟨false, 5, 0, (.int .i64), [], false⟩, ⟨false, 8, 0, (.slice .str), [], false⟩], [1]⟩ .nil .nil)) .nil))))))) .nil))))) (.seq .nil (.seq (.seq .nil (.blk (.loopBD ⟨[⟨false, 16, 0, (.int .i64), [], false⟩], [1]⟩ ⟨[], [1]⟩ 2 (.seq .nil (.seq (.blk (.seq .nil (.blk (.loopBD ⟨[⟨false, 17, 0, (.int .i64), [], false⟩], [1]⟩ ⟨[], [1]⟩ 4 .nil)))) .nil))))) .nil)))))))))))
noncomputable abbrev z90 : Sig := ⟨107, [(.slice .str), .str], [.str], fun x => strings_Join x.1 x.2⟩
noncomputable abbrev z6e : Sig := ⟨34, [z0c, (.slice (.int .i64))], [(.seq (.slice (.int .i64)))], fun x => z1y x.1 x.2⟩
noncomputable abbrev z60 : Sig := ⟨108, [(.slice .str)], [(.slice .str)], fun x => slices_Clone_string x⟩
noncomputable abbrev z7j : Sig := ⟨43, [(.slice (.int .i64))], [(.seq (.int .i64))], fun x => z43 x⟩
noncomputable abbrev z7k : Sig := ⟨42, [(.seq (.int .i64))], [(.slice (.int .i64))], fun x => z35 x⟩
noncomputable abbrev z50 : Sig := ⟨8, [z0p, (.slice z0a)], [(.slice (.int .i64)), (.int .i64), (.int .i64)], fun x => z5a x.1 x.2⟩
noncomputable abbrev za9 : Sig := ⟨28, [(.slice (.slice .str)), z00], [(.slice (.slice .str)), (.int .i64)], fun x => z4t x.1 x.2⟩
noncomputable abbrev z6f : Sig := ⟨57, [z07, z00], [z07], fun x => z0l x.1 x.2⟩
noncomputable abbrev zg7 : Sig := ⟨84, [z07], [z07], fun x => z3a x⟩
noncomputable abbrev z85 : Sig := ⟨54, [(.slice (.slice .str)), (.slice .str)], [(.slice z00), .bool], fun x => z6z x.1 x.2⟩
noncomputable abbrev z36 : Sig := ⟨40, [(.slice (.int .i64))], [(.int .i64)], fun x => z1i x⟩
noncomputable abbrev z1r : Sig := ⟨41, [.bool, (.int .i64)], [(.int .i64)], fun x => z0d x.1 x.2⟩
noncomputable abbrev z49 : Sig := ⟨94, [(.slice z0a), (.fn z0a .bool)], [(.int .i64)], fun x => z1d x.1 x.2⟩
noncomputable abbrev z3k : Sig := ⟨62, [(.slice z0a), (.fn z0a .bool)], [.bool], fun x => z16 x.1 x.2⟩
noncomputable abbrev z1h : Sig := ⟨39, [(.int .i64), (.int .i64), (.int .i64)], [.bool], fun x => z0t x.1 x.2.1 x.2.2⟩
noncomputable abbrev zcf : Sig := ⟨64, [(.int .i64)], [.bool], fun x => z5r x⟩
noncomputable abbrev z93 : Sig := ⟨65, [(.int .i64)], [.bool], fun x => z3u x⟩
noncomputable abbrev zcg : Sig := ⟨66, [(.int .i64)], [.bool], fun x => z5s x⟩
noncomputable abbrev zdn : Sig := ⟨63, [z0a], [.bool], fun x => z6m x⟩
noncomputable abbrev z91 : Sig := ⟨71, [(.slice (.int .i64)), (.fn (.int .i64) .bool)], [(.int .i64)], fun x => z3r x.1 x.2⟩
noncomputable abbrev z4g : Sig := ⟨37, [(.slice (.int .i64)), (.fn (.int .i64) .bool)], [.bool], fun x => z27 x.1 x.2⟩
noncomputable abbrev z78 : Sig := ⟨96, [(.int .i64), (.ptr (.int .i64))], [.bool], fun x => z2x x.1 x.2⟩
noncomputable abbrev z8m : Sig := ⟨95, [(.int .i64), (.slice (.int .i64))], [.bool], fun x => z1b x.1 x.2⟩
noncomputable abbrev z9x : Sig := ⟨67, [z0p], [(.int .i64)], fun x => z4d x⟩
noncomputable abbrev zbb : Sig := ⟨33, [z0p, (.slice z0a)], [z0c, (.int .i64)], fun x => z5l x.1 x.2⟩
noncomputable abbrev zce : Sig := ⟨35, [(.int .i64)], [(.slice (.int .i64))], fun x => z4l x⟩
noncomputable abbrev zba : Sig := ⟨99, [(.int .i64)], [(.int .i64)], fun x => z40 x⟩
noncomputable abbrev z33 : Sig := ⟨97, [z0c, (.slice (.int .i64)), (.int .i64)], [(.arr 5 .bool)], fun x => z2a x.1 x.2.1 x.2.2⟩
noncomputable abbrev zbi : Sig := ⟨111, [(.slice .bool), .bool], [(.int .i64)], fun x => z52 x.1 x.2⟩
noncomputable abbrev z3w : Sig := ⟨98, [(.slice .bool), .bool], [.bool], fun x => z2y x.1 x.2⟩
noncomputable abbrev zcd : Sig := ⟨75, [(.slice (.int .i64)), (.int .i64)], [(.int .i64)], fun x => slices_Index_int x.1 x.2⟩
noncomputable abbrev z5z : Sig := ⟨47, [(.slice (.int .i64)), (.int .i64)], [.bool], fun x => slices_Contains_int x.1 x.2⟩
noncomputable abbrev z61 : Sig := ⟨70, [z0c, (.int .i64), (.int .i64)], [(.int .i64)], fun x => z39 x.1 x.2.1 x.2.2⟩
noncomputable abbrev z92 : Sig := ⟨36, [z0c, (.slice (.int .i64))], [(.int .i64)], fun x => z1e x.1 x.2⟩
noncomputable abbrev zaq : Sig := ⟨38, [(.int .i64)], [.bool], fun x => z4o x⟩
noncomputable abbrev z9w : Sig := ⟨44, [z0c, (.slice (.int .i64))], [(.int .i64)], fun x => z4c x.1 x.2⟩
noncomputable abbrev zci : Sig := ⟨10, [z0p, (.slice z0a), (.slice (.int .i64))], [(.int .i64), (.int .i64)], fun x => z5t x.1 x.2.1 x.2.2⟩
noncomputable abbrev zqf : Sig := ⟨18, [(.slice (.int .i64)), (.slice (.int .i64))], [.bool], fun x => zph x.1 x.2⟩
noncomputable abbrev z9v : Sig := ⟨88, [(.slice (.slice .str))], [(.slice (.slice .str))], fun x => z25 x⟩
noncomputable abbrev zdo : Sig := ⟨110, [.str], [.bool], fun x => z3i x⟩
noncomputable abbrev zao : Sig := ⟨93, [(.slice (.slice .str))], [(.int .i64), (.int .i64)], fun x => z15 x⟩
noncomputable abbrev zbk : Sig := ⟨59, [(.slice (.slice .str))], [(.slice (.slice .str)), (.int .i64)], fun x => z2b x⟩
noncomputable abbrev z71 : Sig := ⟨105, [(.slice (.slice .str)), (.fn (.slice .str) .bool)], [(.int .i64)], fun x => z26 x.1 x.2⟩
noncomputable abbrev z5m : Sig := ⟨80, [(.slice (.slice .str)), (.fn (.slice .str) .bool)], [.bool], fun x => z0y x.1 x.2⟩
noncomputable abbrev z5y : Sig := ⟨106, [(.slice .str), .str], [(.int .i64)], fun x => slices_Index_string x.1 x.2⟩
noncomputable abbrev z3d : Sig := ⟨82, [(.slice .str), .str], [.bool], fun x => slices_Contains_string x.1 x.2⟩
noncomputable abbrev z7v : Sig := ⟨81, [(.slice .str), (.ptr .str)], [.bool], fun x => z1q x.1 x.2⟩
noncomputable abbrev z3x : Sig := ⟨53, [(.slice (.slice .str)), (.slice .str)], [(.slice (.slice .str)), (.int .i64)], fun x => z1f x.1 x.2⟩
noncomputable abbrev z5f : Sig := ⟨109, [(.slice .str), (.fn .str .bool)], [(.int .i64)], fun x => z1g x.1 x.2⟩
noncomputable abbrev z4x : Sig := ⟨90, [(.slice .str), (.fn .str .bool)], [.bool], fun x => z0j x.1 x.2⟩
noncomputable abbrev zet : Sig := ⟨92, [(.slice .str), .str, .str], [.bool], fun x => z5x x.1 x.2.1 x.2.2⟩
noncomputable abbrev z6d : Sig := ⟨91, [.str, (.ptr (.slice .str)), (.ptr .str)], [.bool], fun x => z0x x.1 x.2.1 x.2.2⟩
noncomputable abbrev z7u : Sig := ⟨58, [(.slice (.slice .str)), (.slice .str)], [(.slice .str)], fun x => z19 x.1 x.2⟩
noncomputable abbrev z6g : Sig := ⟨27, [(.slice (.slice .str)), (.slice .str)], [(.slice .str), (.int .i64)], fun x => z2i x.1 x.2⟩
noncomputable abbrev znq : Sig := ⟨31, [(.slice .str), (.slice .str)], [.bool], fun x => zlg x.1 x.2⟩
noncomputable abbrev z74 : Sig := ⟨5, [], [.bool], fun _ => z1l⟩
noncomputable abbrev z94 : Sig := ⟨30, [(.slice .str), .str], [.bool], fun x => z47 x.1 x.2⟩
noncomputable abbrev zmd : Sig := ⟨79, [.str], [.bool], fun x => zcx x⟩
noncomputable abbrev zgo : Sig := ⟨52, [(.slice (.slice .str))], [(.int .i64), (.int .i64)], fun x => z6i x⟩
noncomputable abbrev zkb : Sig := ⟨19, [(.slice (.slice .str))], [(.int .i64)], fun x => z8o x⟩
noncomputable abbrev zg0 : Sig := ⟨20, [(.slice (.slice .str)), (.slice .str)], [(.int .i64)], fun x => z95 x.1 x.2⟩
noncomputable abbrev z73 : Sig := ⟨21, [(.slice (.slice .str))], [(.int .i64)], fun x => z1k x⟩
noncomputable abbrev z77 : Sig := ⟨87, [(.int .i64), (.ptr (.slice (.slice .str)))], [.bool], fun x => z2w x.1 x.2⟩
noncomputable abbrev z8l : Sig := ⟨55, [(.slice (.slice .str)), z00], [(.int .i64)], fun x => z0w x.1 x.2⟩
noncomputable abbrev zie : Sig := ⟨85, [z07], [.str], fun x => z3b x⟩
noncomputable abbrev zch : Sig := ⟨22, [(.slice (.slice .str)), (.slice .str)], [(.slice z00), (.int .i64)], fun x => z2z x.1 x.2⟩
noncomputable abbrev zcj : Sig := ⟨24, [(.slice .str)], [(.slice .str)], fun x => z30 x⟩
noncomputable abbrev zit : Sig := ⟨23, [(.slice (.slice .str))], [(.slice (.slice .str))], fun x => z4a x⟩
noncomputable abbrev zbj : Sig := ⟨56, [(.slice (.slice .str)), (.int .i64)], [.str], fun x => z45 x.1 x.2⟩
noncomputable abbrev zap : Sig := ⟨25, [(.slice (.slice .str)), (.slice .str), (.slice z00)], [(.int .i64), (.int .i64)], fun x => z3m x.1 x.2.1 x.2.2⟩
noncomputable abbrev ziu : Sig := ⟨26, [(.slice z00)], [(.slice z00)], fun x => zcn x⟩
noncomputable abbrev z8k : Sig := ⟨29, [(.slice (.slice .str)), .str], [.bool], fun x => z1a x.1 x.2⟩
noncomputable abbrev z54 : Sig := ⟨4, [z1j], [.bool], fun x => z1u x⟩
end Go.Lift
