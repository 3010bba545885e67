/-
  The types, notes and signatures of these functions.
-/
import Derived.Test.YtggnjngdmadbaaaGreatDoorFunF
import Derived.Test.YtggnjngdmadbaaaGreatDoorLiftL
import Derived.KernelRfl
import Derived.Test.YtggnjngdmadbaaaGreatDoorProg
noncomputable section
set_option linter.unusedSectionVars false
set_option linter.unusedVariables false
set_option linter.unusedSimpArgs false
namespace Go.Lift
open Go Go.Proofs
instance:Tab:=yaa [(0,.u64,Lib.pow10Tab)] [(1,false),(2,true),(3,true)]
def y0i:List (Nat×Ty):=[
 (2,(.int .i64)),
 (3,(.int .i64)),
 (4,.bool),
 (5,(.int .u8)),
 (6,(.int .u8)),
 (7,zdt),
 (8,zdt),
 (9,.str),
 (10,.str),
 (11,.str),
 (12,(.int .u64)),
 (13,z87),
 (14,z87),
 (21,(.int .i32)),
 (22,z26),
 (23,z26),
 (24,z0d),
 (25,z0d),
 (26,z16),
 (27,z16),
 (29,(.fn z26 (.int .i64))),
 (30,(.fn z16 (.int .i64))),
 (32,(.int .i64)),
 (38,z0r),
 (39,z0r),
 (40,(.slice z09)),
 (41,(.slice (.int .i64))),
 (42,(.fn (.slice z09) .bool)),
 (43,(.fn (.slice z09) (.int .i64))),
 (46,(.fn (.slice z09) (.slice z09))),
 (49,(.fn (.slice (.int .i64)) (.slice (.int .i64)))),
 (60,(.slice (.slice .str))),
 (61,(.slice .str)),
 (62,z0d),
 (63,z0d),
 (66,(.fn (.slice (.slice .str)) (.slice (.slice .str)))),
 (71,(.fn (.slice .str) (.slice .str))),
 (81,z0d),
 (82,z0d),
 (85,(.fn z0r (.int .i64))),
 (86,(.fn z0r (.int .i64))),
 (89,y9w),
 (90,y9w),
 (94,z09),
 (95,z09),
 (96,(.fn z16 .str)),
 (101,(.fn z16 (.int .i64))),
 (103,(.fn z26 .str)),
 (108,(.fn z26 (.int .i64))),
 (110,(.slice z0d)),
 (111,(.fn (.slice (.slice .str)) (.int .i64))),
 (115,(.fn (.slice z0d) (.slice z0d))),
 (124,(.fn .str .bool)),
 (125,(.fn (.int .i64) .bool)),
 (126,(.fn (.slice (.int .i64)) (.int .i64))),
 (128,z0h),
 (129,z0h),
 (132,(.seq (.slice (.int .i64)))),
 (133,(.fn (.slice (.int .i64)) (.seq (.slice (.int .i64))))),
 (134,(.fn (.int .i64) (.slice (.int .i64)))),
 (135,(.fn (.slice (.int .i64)) (.int .i64))),
 (137,(.fn (.seq (.int .i64)) (.slice (.int .i64)))),
 (138,(.seq (.int .i64))),
 (139,(.seq (.int .i64))),
 (140,(.fn (.slice (.int .i64)) (.seq (.int .i64)))),
 (143,(.slice (.slice (.int .i64)))),
 (144,(.fn (.slice (.int .i64)) (.slice (.slice (.int .i64))))),
 (146,(.mapT .str .bool)),
 (147,(.slice (.slice .str))),
 (150,(.fn z0d (.int .i64))),
 (158,(.fn (.int .i64) (.int .i64))),
 (160,(.fn (.slice (.int .i64)) .bool)),
 (161,(.fn (.int .i64) .str)),
 (165,zde),
 (166,zde),
 (170,z0d),
 (171,z0d),
 (173,(.arr 6 .bool)),
 (177,(.arr 4 (.int .i64))),
 (183,z0b),
 (184,z0b),
 (185,(.fn z0d z0b)),
 (186,ztt),
 (187,ztt),
 (189,(.slice ztt)),
 (191,(.slice (.int .i64))),
 (193,(.fn z09 .bool)),
 (197,(.slice (.int .u8))),
 (200,(.fn (.slice .str) .bool)),
 (203,(.seq z0d)),
 (204,(.fn (.slice (.int .i64)) (.seq z0d))),
 (211,.err),
 (221,(.slice .bool)),
 (231,(.slice z0b)),
 (233,(.seq z0d)),
 (237,(.arr 5 .bool)),
 (242,(.fn (.int .u64) (.int .i64))),
 (243,(.int .u64)),
 (246,(.fn z0d .bool)),
 (251,(.mapT .str (.int .i64))),
 (257,(.fn z0d .bool)),
 (260,(.int .i64)),
 (267,(.fn (.int .u32) (.int .i64))),
 (268,(.int .u32)),
 (269,(.fn (.int .u64) (.int .i64))),
 (270,(.int .u64)),
 (271,(.arr 24 (.int .u8))),
 (277,(.fn (.int .i64) (.slice (.int .u8)))),
 (278,(.fn .str (.int .i64))),
 (284,(.int .i64)),
 (290,(.int .u64)),
 (291,(.fn (.int .i64) (.int .u64))),
 (295,(.fn .bool (.int .i64))),
 (296,(.arr 20 (.int .u64))),
 (297,(.arr 65 (.int .u8))),
 (300,(.fn .str .str)),
 (301,zh6),
 (302,zh6),
 (303,(.fn .str .err)),
 (306,(.arr 256 (.int .u8))),
 (307,zc7),
 (308,zc7),
 (309,(.arr 16 zc7)),
 (312,(.fn (.int .u8) (.int .u8))),
 (314,zez),
 (315,zez),
 (316,(.arr 32 (.int .u8))),
 (317,(.arr 64 (.int .u8))),
 (324,(.int .u8)),
 (325,(.int .u8)),
 (327,(.int .i32)),
 (328,(.int .i32))]
def y8e:List (Nat×Nat):=[(7,4),(8,4),(13,2),(14,2),(22,5),(23,5),(24,2),(25,2),(26,7),(27,7),(38,9),(39,9),(62,2),(63,2),(81,2),(82,2),(89,2),(90,2),(94,4),(95,4),(128,2),(129,2),(165,2),(166,2),(170,2),(171,2),(183,4),(184,4),(186,2),(187,2),(301,3),(302,3),(307,2),(308,2),(314,1),(315,1)]
def y99:List Nat:=[9,23,25,27,82]
theorem z0x:ya5 Tryz.prog y0i=true:=by kernel_rfl
theorem z0y:yb8 Tryz.prog y0i y8e=true:=by kernel_rfl
theorem z0z:ybq Tryz.prog y0i y99=true:=by kernel_rfl
theorem z02:Tryz.prog.follows .mixedOrders=true:=by kernel_rfl
abbrev cx(own:List Nat)(l:List Sig):Ctx:=cxOf y0i y8e y99 own l
abbrev cxM(own:List Nat)(l:List Sig):Ctx :=@cxOf mfOn y0i y8e y99 own l
def zh5:Ann:=(.seq .nil (.seq (.seq .nil (.blk (.loopBD ⟨[⟨false,7,0,(.int .i64),[],false⟩],[]⟩ ⟨[],[]⟩ 0 .nil))) .nil))
def zfx:Ann :=.nil
def zfw:Ann :=.nil
def zg0:Ann:=(.seq .nil (.seq (.seq .nil (.blk (.loopBD ⟨[⟨false,9,0,(.int .i64),[],false⟩],[]⟩ ⟨[],[]⟩ 0 .nil))) .nil))
def zew:Ann :=.nil
def zb4:Ann :=.nil
def zev:Ann :=.nil
def zg1:Ann :=.nil
def zbw:Ann :=.nil
def zd4:Ann :=.nil
def zh3:Ann :=.nil
def zbu:Ann :=.nil
def zb0:Ann:=(.seq .nil (.seq (.seq .nil (.blk (.loopBD ⟨[⟨false,8,0,(.int .i64),[],false⟩],[]⟩ ⟨[],[]⟩ 0 .nil))) .nil))
def z8u:Ann :=.nil
def z8x:Ann :=.nil
def za7:Ann:=(.seq .nil (.seq (.frz 2 .nil) .nil))
def zbv:Ann :=.nil
def z5g:Ann:=(.seq .nil (.seq (.seq .nil (.blk (.loopBD ⟨[⟨false,8,0,(.int .i64),[],false⟩],[]⟩ ⟨[],[]⟩ 0 .nil))) .nil))
def z4h:Ann :=.nil
def zfy:Ann :=.nil
def zic:Ann :=.nil
def zeu:Ann:=(.seq .nil (.seq .nil (.seq (.seq .nil (.blk (.loopB ⟨[⟨false,3,0,(.slice (.int .i64)),[([],some 101000300)],false⟩,⟨false,6,0,(.int .i64),[],false⟩],[]⟩ ⟨[⟨false,3,0,(.slice (.int .i64)),[([],some 201000300)],false⟩],[]⟩ 0 .nil))) .nil)))
def zib:Ann :=.nil
def z8w:Ann:=(.seq .nil (.seq .nil (.seq .nil (.seq (.seq .nil (.blk (.loopB ⟨[⟨false,8,0,(.int .i64),[],false⟩,⟨false,19,0,(.int .i64),[],false⟩],[3,6,7]⟩ ⟨[⟨false,8,0,(.int .i64),[],false⟩],[3,6,7]⟩ 0 .nil))) (.seq .nil (.seq .nil (.seq .nil (.seq .nil (.seq (.seq .nil (.join ⟨[⟨true,7,237,(.arr 5 .bool),[],false⟩],[3,6,11,12]⟩ .nil .nil)) .nil)))))))))
def zdp:Ann:=(.seq .nil (.seq (.seq .nil (.blk (.loopBD ⟨[⟨false,8,0,(.int .i64),[],false⟩],[]⟩ ⟨[],[]⟩ 0 .nil))) .nil))
def zb1:Ann :=.nil
def zet:Ann:=(.seq .nil (.seq (.seq .nil (.blk (.loopBD ⟨[⟨false,8,0,(.int .i64),[],false⟩],[]⟩ ⟨[],[]⟩ 0 .nil))) .nil))
def zbq:Ann :=.nil
def zbt:Ann :=.nil
def zb2:Ann:=(.seq .nil (.seq .nil (.seq (.seq .nil (.blk (.loopB ⟨[⟨false,5,0,(.int .i64),[],false⟩,⟨false,6,0,(.int .i64),[],false⟩],[2]⟩ ⟨[⟨false,5,0,(.int .i64),[],false⟩],[2]⟩ 0 .nil))) .nil)))
def zd6:Ann :=.nil
def zbs:Ann:=(.seq .nil (.seq .nil (.seq (.blk (.loopB ⟨[⟨false,5,0,(.slice (.int .i64)),[([],some 2201000500)],false⟩,⟨false,6,0,(.int .i64),[],false⟩],[2]⟩ ⟨[⟨false,6,0,(.int .i64),[],false⟩],[2]⟩ 0 (.seq .nil (.blk (.seq .nil (.seq (.seq .nil (.blk (.loopB ⟨[⟨false,7,0,(.int .i64),[],false⟩,⟨false,8,0,(.int .i64),[],false⟩,⟨false,22,0,(.int .i64),[],false⟩],[2,2201000500]⟩ ⟨[⟨false,7,0,(.int .i64),[],false⟩,⟨false,8,0,(.int .i64),[],false⟩],[2,2201000500]⟩ 2 (.seq .nil (.seq .nil (.seq (.blk (.seq .nil (.seq .nil (.blk (.loopB ⟨[⟨false,7,0,(.int .i64),[],false⟩,⟨false,8,0,(.int .i64),[],false⟩,⟨false,29,0,(.int .i64),[],false⟩],[2,2201000500]⟩ ⟨[⟨false,7,0,(.int .i64),[],false⟩,⟨false,8,0,(.int .i64),[],false⟩],[2,2201000500]⟩ 4 (.seq .nil (.seq .nil (.seq (.blk (.seq .nil (.seq .nil (.seq .nil (.join ⟨[⟨false,7,0,(.int .i64),[],false⟩,⟨false,8,0,(.int .i64),[],false⟩],[2,2201000500]⟩ .nil .nil))))) .nil)))))))) .nil)))))) .nil)))))) .nil)))
def zey:Ann:=(.seq .nil (.seq .nil (.seq .nil (.seq .nil (.seq .nil (.seq .nil (.seq (.seq .nil (.blk (.loopB ⟨[⟨false,11,0,(.int .i64),[],false⟩,⟨false,44,0,(.int .i64),[],false⟩],[3,8,34]⟩ ⟨[⟨false,11,0,(.int .i64),[],false⟩],[3,8,34]⟩ 0 .nil))) .nil)))))))
def zvz:Ann:=(.seq .nil (.seq .nil (.seq (.seq .nil (.blk (.loopBD ⟨[⟨false,5,0,(.int .i64),[],false⟩],[]⟩ ⟨[],[]⟩ 0 .nil))) .nil)))
def zd3:Ann:=(.seq .nil (.seq .nil (.seq .nil (.seq (.seq .nil (.blk (.loopBD ⟨[⟨false,27,0,(.int .i64),[],false⟩,⟨true,24,146,(.mapT .str .bool),[],true⟩],[19]⟩ ⟨[⟨true,24,146,(.mapT .str .bool),[],true⟩],[19]⟩ 0 (.seq .nil (.seq .nil (.seq (.blk (.seq .nil (.seq .nil (.seq .nil (.blk (.loopBD ⟨[⟨false,38,0,(.int .i64),[],false⟩,⟨true,24,146,(.mapT .str .bool),[],true⟩],[19]⟩ ⟨[⟨true,24,146,(.mapT .str .bool),[],true⟩],[19]⟩ 2 .nil)))))) .nil)))))) .nil))))
def zbr:Ann:=(.seq .nil (.seq .nil (.seq (.seq .nil (.blk (.loopB ⟨[⟨false,3,0,(.slice (.slice .str)),[([],some 101000300)],false⟩,⟨false,8,0,(.int .i64),[],false⟩],[]⟩ ⟨[⟨false,3,0,(.slice (.slice .str)),[([],some 201000300)],false⟩],[]⟩ 0 .nil))) .nil)))
def zdr:Ann :=.nil
def z8t:Ann:=(.seq .nil (.seq (.seq .nil (.blk (.loopBD ⟨[⟨false,8,0,(.int .i64),[],false⟩],[]⟩ ⟨[],[]⟩ 0 .nil))) .nil))
def z6y:Ann :=.nil
def zbp:Ann:=(.seq .nil (.seq (.seq .nil (.blk (.loopBD ⟨[⟨false,8,0,(.int .i64),[],false⟩],[]⟩ ⟨[],[]⟩ 0 .nil))) .nil))
def z9d:Ann :=.nil
def z9f:Ann :=.nil
def zb3:Ann:=(.seq .nil (.seq .nil (.seq .nil (.seq (.seq .nil (.blk (.loopBD ⟨[⟨false,22,0,(.int .i64),[],false⟩],[]⟩ ⟨[],[]⟩ 0 (.seq .nil (.seq .nil (.seq (.blk (.seq .nil (.seq (.frz 9 .nil) .nil))) .nil)))))) .nil))))
def z6k:Ann:=(.seq .nil (.seq (.seq .nil (.blk (.loopBD ⟨[⟨false,8,0,(.int .i64),[],false⟩],[]⟩ ⟨[],[]⟩ 0 .nil))) .nil))
def z5u:Ann :=.nil
def zh4:Ann :=.nil
def z86:Ann :=.nil
def z9e:Ann:=(.seq .nil (.seq (.frz 3 .nil) (.seq (.seq .nil (.blk (.loopB ⟨[⟨false,5,0,(.slice .str),[([],some 801000500)],false⟩,⟨false,12,0,(.int .i64),[],false⟩],[]⟩ ⟨[⟨false,5,0,(.slice .str),[([],some 1601000500)],false⟩],[]⟩ 0 (.seq .nil (.seq .nil (.seq (.blk (.seq .nil (.seq .nil (.blk (.loopB ⟨[⟨false,5,0,(.slice .str),[([],some 1901000500)],false⟩,⟨false,18,0,(.int .i64),[],false⟩],[]⟩ ⟨[⟨false,5,0,(.slice .str),[([],some 2201000500)],false⟩],[]⟩ 2 (.seq .nil (.seq .nil (.seq (.blk (.seq .nil (.seq (.frz 9 .nil) (.join ⟨[⟨false,5,0,(.slice .str),[([],some 2301000500)],false⟩],[]⟩ .nil .nil)))) .nil)))))))) .nil)))))) .nil)))
def zd7:Ann :=.nil
def ztr:Ann:=(.seq .nil (.seq .nil (.seq (.seq .nil (.blk (.loopBD ⟨[⟨false,5,0,(.int .i64),[],false⟩],[]⟩ ⟨[],[]⟩ 0 .nil))) .nil)))
def zfz:Ann :=.nil
def zvy:Ann :=.nil
def ztp:Ann :=.nil
def ztq:Ann :=.nil
def zto:Ann :=.nil
def zq7:Ann:=(.seq .nil (.seq .nil (.seq (.seq .nil (.blk (.loopBD ⟨[⟨false,3,0,(.int .i64),[],false⟩],[]⟩ ⟨[],[]⟩ 0 .nil))) .nil)))
abbrev z7q:Sig:=⟨114,[(.int .i64)],[.str],fun x=>strconv_Itoa x⟩
abbrev z9h:Sig:=⟨117,[.str,.str],[(.slice .str)],fun x=>strings_Split x.1 x.2⟩
abbrev z7r:Sig:=⟨170,[.str],[(.int .i64),.err],fun x=>strconv_Atoi x⟩
abbrev z2j:Sig:=⟨84,[z0h,(.slice (.int .i64))],[(.seq (.slice (.int .i64)))],fun x=>z2i x.1 x.2⟩
abbrev z3v:Sig:=⟨187,[(.slice .str)],[(.slice .str)],fun x=>slices_Clone_string x⟩
abbrev z4q:Sig:=⟨91,[(.slice (.int .i64))],[(.seq (.int .i64))],fun x=>z55 x⟩
abbrev z4r:Sig:=⟨90,[(.seq (.int .i64))],[(.slice (.int .i64))],fun x=>z40 x⟩
abbrev z3q:Sig:=⟨24,[z0r,(.slice z09)],[(.slice (.int .i64)),(.int .i64),(.int .i64)],fun x=>z6d x.1 x.2⟩
abbrev z3w:Sig:=⟨56,[.str],[z16,(.int .i64),(.int .i64)],fun x=>z48 x⟩
abbrev z2b:Sig:=⟨80,[(.slice (.int .i64))],[(.int .i64)],fun x=>z1e x⟩
abbrev z1g:Sig:=⟨81,[.bool,(.int .i64)],[(.int .i64)],fun x=>z0c x.1 x.2⟩
abbrev z15:Sig:=⟨89,[(.int .i64),(.int .i64),(.int .i64)],[.bool],fun x=>z0m x.1 x.2.1 x.2.2⟩
abbrev z7i:Sig:=⟨99,[.str],[.bool],fun x=>z1o x⟩
abbrev z6m:Sig:=⟨122,[(.int .i64)],[.bool],fun x=>z4k x⟩
abbrev z4w:Sig:=⟨123,[(.int .i64)],[.bool],fun x=>z2y x⟩
abbrev z6l:Sig:=⟨124,[(.int .i64)],[.bool],fun x=>z4j x⟩
abbrev zff:Sig:=⟨125,[(.int .i64)],[.bool],fun x=>z6c x⟩
abbrev zbj:Sig:=⟨58,[z16],[(.int .i64)],fun x=>z1k x⟩
abbrev zch:Sig:=⟨63,[z26],[(.int .i64)],fun x=>z5r x⟩
abbrev zgp:Sig:=⟨82,[z26,z16],[.bool],fun x=>z9c x.1 x.2⟩
abbrev zbh:Sig:=⟨19,[z26,z16],[z0d,(.int .i64)],fun x=>z5e x.1 x.2⟩
abbrev zag:Sig:=⟨144,[(.slice (.int .i64)),(.fn (.int .i64) .bool)],[(.int .i64)],fun x=>z4p x.1 x.2⟩
abbrev z5i:Sig:=⟨87,[(.slice (.int .i64)),(.fn (.int .i64) .bool)],[.bool],fun x=>z2r x.1 x.2⟩
abbrev z8q:Sig:=⟨110,[(.int .i64),(.ptr (.int .i64))],[.bool],fun x=>z3o x.1 x.2⟩
abbrev za0:Sig:=⟨109,[(.int .i64),(.slice (.int .i64))],[.bool],fun x=>z1p x.1 x.2⟩
abbrev zbi:Sig:=⟨51,[z0r],[(.int .i64)],fun x=>z5f x⟩
abbrev z5a:Sig:=⟨180,[(.slice z09),(.fn z09 .bool)],[(.int .i64)],fun x=>z1t x.1 x.2⟩
abbrev z4f:Sig:=⟨139,[(.slice z09),(.fn z09 .bool)],[.bool],fun x=>z1j x.1 x.2⟩
abbrev zfe:Sig:=⟨140,[z09],[.bool],fun x=>z83 x⟩
abbrev zd9:Sig:=⟨83,[z0r,(.slice z09)],[z0h,(.int .i64)],fun x=>z6r x.1 x.2⟩
abbrev zeb:Sig:=⟨85,[(.int .i64)],[(.slice (.int .i64))],fun x=>z5n x⟩
abbrev zd8:Sig:=⟨183,[(.int .i64)],[(.int .i64)],fun x=>z50 x⟩
abbrev z3t:Sig:=⟨181,[z0h,(.slice (.int .i64)),(.int .i64)],[(.arr 5 .bool)],fun x=>z2t x.1 x.2.1 x.2.2⟩
abbrev zdj:Sig:=⟨212,[(.slice .bool),.bool],[(.int .i64)],fun x=>z65 x.1 x.2⟩
abbrev z4u:Sig:=⟨182,[(.slice .bool),.bool],[.bool],fun x=>z3p x.1 x.2⟩
abbrev zea:Sig:=⟨177,[(.slice (.int .i64)),(.int .i64)],[(.int .i64)],fun x=>slices_Index_int x.1 x.2⟩
abbrev z78:Sig:=⟨133,[(.slice (.int .i64)),(.int .i64)],[.bool],fun x=>slices_Contains_int x.1 x.2⟩
abbrev z79:Sig:=⟨143,[z0h,(.int .i64),(.int .i64)],[(.int .i64)],fun x=>z44 x.1 x.2.1 x.2.2⟩
abbrev zah:Sig:=⟨86,[z0h,(.slice (.int .i64))],[(.int .i64)],fun x=>z1x x.1 x.2⟩
abbrev zcj:Sig:=⟨88,[(.int .i64)],[.bool],fun x=>z5s x⟩
abbrev zbf:Sig:=⟨92,[z0h,(.slice (.int .i64))],[(.int .i64)],fun x=>z5d x.1 x.2⟩
abbrev zed:Sig:=⟨26,[z0r,(.slice z09),(.slice (.int .i64))],[(.int .i64),(.int .i64)],fun x=>z6x x.1 x.2.1 x.2.2⟩
abbrev zuq:Sig:=⟨32,[(.slice (.int .i64)),(.slice (.int .i64))],[.bool],fun x=>ztj x.1 x.2⟩
abbrev zcg:Sig:=⟨37,[(.slice (.slice .str))],[(.int .i64),(.int .i64)],fun x=>z1i x⟩
abbrev zbe:Sig:=⟨148,[(.slice (.slice .str))],[(.slice (.slice .str))],fun x=>z2n x⟩
abbrev zdl:Sig:=⟨100,[(.slice (.slice .str))],[(.slice (.slice .str)),(.int .i64)],fun x=>z2u x⟩
abbrev z8o:Sig:=⟨188,[(.slice (.slice .str)),(.fn (.slice .str) .bool)],[(.int .i64)],fun x=>z2q x.1 x.2⟩
abbrev z6s:Sig:=⟨150,[(.slice (.slice .str)),(.fn (.slice .str) .bool)],[.bool],fun x=>z1b x.1 x.2⟩
abbrev z77:Sig:=⟨189,[(.slice .str),.str],[(.int .i64)],fun x=>slices_Index_string x.1 x.2⟩
abbrev z49:Sig:=⟨152,[(.slice .str),.str],[.bool],fun x=>slices_Contains_string x.1 x.2⟩
abbrev z98:Sig:=⟨151,[(.slice .str),(.ptr .str)],[.bool],fun x=>z2d x.1 x.2⟩
abbrev z4v:Sig:=⟨103,[(.slice (.slice .str)),(.slice .str)],[(.slice (.slice .str)),(.int .i64)],fun x=>z1y x.1 x.2⟩
abbrev z6h:Sig:=⟨190,[(.slice .str),(.fn .str .bool)],[(.int .i64)],fun x=>z1z x.1 x.2⟩
abbrev z5o:Sig:=⟨153,[(.slice .str),(.fn .str .bool)],[.bool],fun x=>z0p x.1 x.2⟩
abbrev zgq:Sig:=⟨155,[(.slice .str),.str,.str],[.bool],fun x=>z74 x.1 x.2.1 x.2.2⟩
abbrev z7s:Sig:=⟨154,[.str,(.ptr (.slice .str)),(.ptr .str)],[.bool],fun x=>z1a x.1 x.2.1 x.2.2⟩
abbrev z97:Sig:=⟨104,[(.slice (.slice .str)),(.slice .str)],[(.slice .str)],fun x=>z1l x.1 x.2⟩
abbrev z7u:Sig:=⟨40,[(.slice (.slice .str)),(.slice .str)],[(.slice .str),(.int .i64)],fun x=>z35 x.1 x.2⟩
abbrev zre:Sig:=⟨46,[(.slice .str),(.slice .str)],[.bool],fun x=>zol x.1 x.2⟩
abbrev zai:Sig:=⟨127,[.str],[(.int .i64),.bool],fun x=>z6b x⟩
abbrev zup:Sig:=⟨75,[],[(.slice (.slice .str))],fun _=>zsn⟩
abbrev zrc:Sig:=⟨76,[],[z0r],fun _=>zkp⟩
abbrev zrd:Sig:=⟨77,[],[(.slice z09)],fun _=>zkq⟩
abbrev zrb:Sig:=⟨15,[],[.bool],fun _=>zhn⟩
abbrev zps:Sig:=⟨78,[.str],[.bool],fun x=>zh2 x⟩
end Go.Lift
end
