/-
  The types, notes and signatures of these functions.
-/
import Derived.Test.YtggnjngdmadbaaaGreatDoorFunF
import Derived.Test.YtggnjngdmadbaaaGreatDoorLiftL
import Derived.Test.YtggnjngdmadbaaaGreatDoorProg
noncomputable section
set_option linter.all false
namespace Go.Lift
open Go Go.Proofs
instance:wB:=ybc [(0,.u64,Lib.pow10Tab)] [(1,false),(2,true),(3,true)]
def cE:List (Nat×Ty):=[
 (2,(.int .i64)),
 (3,(.int .i64)),
 (4,.bool),
 (5,(.int .u8)),
 (6,(.int .u8)),
 (7,zdu),
 (8,zdu),
 (9,.str),
 (10,.str),
 (11,.str),
 (12,(.int .u64)),
 (13,z87),
 (14,z87),
 (21,(.int .i32)),
 (22,EX),
 (23,EX),
 (24,wP),
 (25,wP),
 (26,GV),
 (27,GV),
 (29,(.fn EX (.int .i64))),
 (30,(.fn GV (.int .i64))),
 (32,(.int .i64)),
 (38,Jc),
 (39,Jc),
 (40,(.slice Yy)),
 (41,(.slice (.int .i64))),
 (42,(.fn (.slice Yy) .bool)),
 (43,(.fn (.slice Yy) (.int .i64))),
 (46,(.fn (.slice Yy) (.slice Yy))),
 (49,(.fn (.slice (.int .i64)) (.slice (.int .i64)))),
 (60,(.slice (.slice .str))),
 (61,(.slice .str)),
 (62,wP),
 (63,wP),
 (66,(.fn (.slice (.slice .str)) (.slice (.slice .str)))),
 (71,(.fn (.slice .str) (.slice .str))),
 (81,wP),
 (82,wP),
 (85,(.fn Jc (.int .i64))),
 (86,(.fn Jc (.int .i64))),
 (89,yb1),
 (90,yb1),
 (94,Yy),
 (95,Yy),
 (96,(.fn GV .str)),
 (101,(.fn GV (.int .i64))),
 (103,(.fn EX .str)),
 (108,(.fn EX (.int .i64))),
 (110,(.slice wP)),
 (111,(.fn (.slice (.slice .str)) (.int .i64))),
 (115,(.fn (.slice wP) (.slice wP))),
 (124,(.fn .str .bool)),
 (125,(.fn (.int .i64) .bool)),
 (126,(.fn (.slice (.int .i64)) (.int .i64))),
 (128,Xf),
 (129,Xf),
 (132,(.seq (.slice (.int .i64)))),
 (133,(.fn (.slice (.int .i64)) (.seq (.slice (.int .i64))))),
 (134,(.fn (.int .i64) (.slice (.int .i64)))),
 (135,(.fn (.slice (.int .i64)) (.int .i64))),
 (137,(.fn (.seq (.int .i64)) (.slice (.int .i64)))),
 (138,(.seq (.int .i64))),
 (139,(.seq (.int .i64))),
 (140,(.fn (.slice (.int .i64)) (.seq (.int .i64)))),
 (143,(.slice (.slice (.int .i64)))),
 (144,(.fn (.slice (.int .i64)) (.slice (.slice (.int .i64))))),
 (146,(.mapT .str .bool)),
 (147,(.slice (.slice .str))),
 (150,(.fn wP (.int .i64))),
 (158,(.fn (.int .i64) (.int .i64))),
 (160,(.fn (.slice (.int .i64)) .bool)),
 (161,(.fn (.int .i64) .str)),
 (165,Ry),
 (166,Ry),
 (170,wP),
 (171,wP),
 (173,(.arr 6 .bool)),
 (177,(.arr 4 (.int .i64))),
 (183,Zk),
 (184,Zk),
 (185,(.fn wP Zk)),
 (186,WK),
 (187,WK),
 (189,(.slice WK)),
 (191,(.slice (.int .i64))),
 (193,(.fn Yy .bool)),
 (197,(.slice (.int .u8))),
 (200,(.fn (.slice .str) .bool)),
 (203,(.seq wP)),
 (204,(.fn (.slice (.int .i64)) (.seq wP))),
 (211,.err),
 (221,(.slice .bool)),
 (231,(.slice Zk)),
 (233,(.seq wP)),
 (237,(.arr 5 .bool)),
 (242,(.fn (.int .u64) (.int .i64))),
 (243,(.int .u64)),
 (246,(.fn wP .bool)),
 (251,(.mapT .str (.int .i64))),
 (257,(.fn wP .bool)),
 (260,(.int .i64)),
 (267,(.fn (.int .u32) (.int .i64))),
 (268,(.int .u32)),
 (269,(.fn (.int .u64) (.int .i64))),
 (270,(.int .u64)),
 (271,(.arr 24 (.int .u8))),
 (277,(.fn (.int .i64) (.slice (.int .u8)))),
 (278,(.fn .str (.int .i64))),
 (284,(.int .i64)),
 (290,(.int .u64)),
 (291,(.fn (.int .i64) (.int .u64))),
 (295,(.fn .bool (.int .i64))),
 (296,(.arr 20 (.int .u64))),
 (297,(.arr 65 (.int .u8))),
 (300,(.fn .str .str)),
 (301,zhd),
 (302,zhd),
 (303,(.fn .str .err)),
 (306,(.arr 256 (.int .u8))),
 (307,RD),
 (308,RD),
 (309,(.arr 16 RD)),
 (312,(.fn (.int .u8) (.int .u8))),
 (314,zf8),
 (315,zf8),
 (316,(.arr 32 (.int .u8))),
 (317,(.arr 64 (.int .u8))),
 (324,(.int .u8)),
 (325,(.int .u8)),
 (327,(.int .i32)),
 (328,(.int .i32))]
def nV:List (Nat×Nat):=[(7,4),(8,4),(13,2),(14,2),(22,5),(23,5),(24,2),(25,2),(26,7),(27,7),(38,9),(39,9),(62,2),(63,2),(81,2),(82,2),(89,2),(90,2),(94,4),(95,4),(128,2),(129,2),(165,2),(166,2),(170,2),(171,2),(183,4),(184,4),(186,2),(187,2),(301,3),(302,3),(307,2),(308,2),(314,1),(315,1)]
def nS:List Nat:=[9,23,25,27,82]
theorem vU:Si Tryz.prog cE=true:=by kernel_rfl
theorem vT:Sc Tryz.prog cE nV=true:=by kernel_rfl
theorem vS:u9 Tryz.prog cE nS=true:=by kernel_rfl
theorem vi:Tryz.prog.follows .mixedOrders=true:=by kernel_rfl
abbrev cx(own:List Nat)(l:List Sig):QW:=F3 cE nV nS own l
abbrev cxM(own:List Nat)(l:List Sig):QW :=@F3 dz cE nV nS own l
def zhb:Ann:=(.seq .nil (.seq (.seq .nil (.blk (.loopBD ⟨[⟨false,7,0,(.int .i64),[],false⟩],[]⟩ ⟨[],[]⟩ 0 .nil))) .nil))
def zg6:Ann :=.nil
def zg5:Ann :=.nil
def zg9:Ann:=(.seq .nil (.seq (.seq .nil (.blk (.loopBD ⟨[⟨false,9,0,(.int .i64),[],false⟩],[]⟩ ⟨[],[]⟩ 0 .nil))) .nil))
def zf5:Ann :=.nil
def zb6:Ann :=.nil
def zf4:Ann :=.nil
def zga:Ann :=.nil
def zbw:Ann :=.nil
def zd6:Ann :=.nil
def zh9:Ann :=.nil
def zbu:Ann :=.nil
def zb2:Ann:=(.seq .nil (.seq (.seq .nil (.blk (.loopBD ⟨[⟨false,8,0,(.int .i64),[],false⟩],[]⟩ ⟨[],[]⟩ 0 .nil))) .nil))
def z8v:Ann :=.nil
def z8y:Ann :=.nil
def zaa:Ann:=(.seq .nil (.seq (.frz 2 .nil) .nil))
def zbv:Ann :=.nil
def z5b:Ann:=(.seq .nil (.seq (.seq .nil (.blk (.loopBD ⟨[⟨false,8,0,(.int .i64),[],false⟩],[]⟩ ⟨[],[]⟩ 0 .nil))) .nil))
def z4g:Ann :=.nil
def zg7:Ann :=.nil
def zii:Ann :=.nil
def zf3:Ann:=(.seq .nil (.seq .nil (.seq (.seq .nil (.blk (.loopB ⟨[⟨false,3,0,(.slice (.int .i64)),[([],some 101000300)],false⟩,⟨false,6,0,(.int .i64),[],false⟩],[]⟩ ⟨[⟨false,3,0,(.slice (.int .i64)),[([],some 201000300)],false⟩],[]⟩ 0 .nil))) .nil)))
def zih:Ann :=.nil
def z8x:Ann:=(.seq .nil (.seq .nil (.seq .nil (.seq (.seq .nil (.blk (.loopB ⟨[⟨false,8,0,(.int .i64),[],false⟩,⟨false,19,0,(.int .i64),[],false⟩],[3,6,7]⟩ ⟨[⟨false,8,0,(.int .i64),[],false⟩],[3,6,7]⟩ 0 .nil))) (.seq .nil (.seq .nil (.seq .nil (.seq .nil (.seq (.seq .nil (.join ⟨[⟨true,7,237,(.arr 5 .bool),[],false⟩],[3,6,11,12]⟩ .nil .nil)) .nil)))))))))
def zdq:Ann:=(.seq .nil (.seq (.seq .nil (.blk (.loopBD ⟨[⟨false,8,0,(.int .i64),[],false⟩],[]⟩ ⟨[],[]⟩ 0 .nil))) .nil))
def zb3:Ann :=.nil
def zf1:Ann:=(.seq .nil (.seq (.seq .nil (.blk (.loopBD ⟨[⟨false,8,0,(.int .i64),[],false⟩],[]⟩ ⟨[],[]⟩ 0 .nil))) .nil))
def zbq:Ann :=.nil
def zbt:Ann :=.nil
def zb4:Ann:=(.seq .nil (.seq .nil (.seq (.seq .nil (.blk (.loopB ⟨[⟨false,5,0,(.int .i64),[],false⟩,⟨false,6,0,(.int .i64),[],false⟩],[2]⟩ ⟨[⟨false,5,0,(.int .i64),[],false⟩],[2]⟩ 0 .nil))) .nil)))
def zd8:Ann :=.nil
def zbs:Ann:=(.seq .nil (.seq .nil (.seq (.blk (.loopB ⟨[⟨false,5,0,(.slice (.int .i64)),[([],some 2201000500)],false⟩,⟨false,6,0,(.int .i64),[],false⟩],[2]⟩ ⟨[⟨false,6,0,(.int .i64),[],false⟩],[2]⟩ 0 (.seq .nil (.blk (.seq .nil (.seq (.seq .nil (.blk (.loopB ⟨[⟨false,7,0,(.int .i64),[],false⟩,⟨false,8,0,(.int .i64),[],false⟩,⟨false,22,0,(.int .i64),[],false⟩],[2,2201000500]⟩ ⟨[⟨false,7,0,(.int .i64),[],false⟩,⟨false,8,0,(.int .i64),[],false⟩],[2,2201000500]⟩ 2 (.seq .nil (.seq .nil (.seq (.blk (.seq .nil (.seq .nil (.blk (.loopB ⟨[⟨false,7,0,(.int .i64),[],false⟩,⟨false,8,0,(.int .i64),[],false⟩,⟨false,29,0,(.int .i64),[],false⟩],[2,2201000500]⟩ ⟨[⟨false,7,0,(.int .i64),[],false⟩,⟨false,8,0,(.int .i64),[],false⟩],[2,2201000500]⟩ 4 (.seq .nil (.seq .nil (.seq (.blk (.seq .nil (.seq .nil (.seq .nil (.join ⟨[⟨false,7,0,(.int .i64),[],false⟩,⟨false,8,0,(.int .i64),[],false⟩],[2,2201000500]⟩ .nil .nil))))) .nil)))))))) .nil)))))) .nil)))))) .nil)))
def zf7:Ann:=(.seq .nil (.seq .nil (.seq .nil (.seq .nil (.seq .nil (.seq .nil (.seq (.seq .nil (.blk (.loopB ⟨[⟨false,11,0,(.int .i64),[],false⟩,⟨false,44,0,(.int .i64),[],false⟩],[3,8,34]⟩ ⟨[⟨false,11,0,(.int .i64),[],false⟩],[3,8,34]⟩ 0 .nil))) .nil)))))))
def LB:Ann:=(.seq .nil (.seq .nil (.seq (.seq .nil (.blk (.loopBD ⟨[⟨false,5,0,(.int .i64),[],false⟩],[]⟩ ⟨[],[]⟩ 0 .nil))) .nil)))
def zd5:Ann:=(.seq .nil (.seq .nil (.seq .nil (.seq (.seq .nil (.blk (.loopBD ⟨[⟨false,27,0,(.int .i64),[],false⟩,⟨true,24,146,(.mapT .str .bool),[],true⟩],[19]⟩ ⟨[⟨true,24,146,(.mapT .str .bool),[],true⟩],[19]⟩ 0 (.seq .nil (.seq .nil (.seq (.blk (.seq .nil (.seq .nil (.seq .nil (.blk (.loopBD ⟨[⟨false,38,0,(.int .i64),[],false⟩,⟨true,24,146,(.mapT .str .bool),[],true⟩],[19]⟩ ⟨[⟨true,24,146,(.mapT .str .bool),[],true⟩],[19]⟩ 2 .nil)))))) .nil)))))) .nil))))
def zbr:Ann:=(.seq .nil (.seq .nil (.seq (.seq .nil (.blk (.loopB ⟨[⟨false,3,0,(.slice (.slice .str)),[([],some 101000300)],false⟩,⟨false,8,0,(.int .i64),[],false⟩],[]⟩ ⟨[⟨false,3,0,(.slice (.slice .str)),[([],some 201000300)],false⟩],[]⟩ 0 .nil))) .nil)))
def zds:Ann :=.nil
def z8u:Ann:=(.seq .nil (.seq (.seq .nil (.blk (.loopBD ⟨[⟨false,8,0,(.int .i64),[],false⟩],[]⟩ ⟨[],[]⟩ 0 .nil))) .nil))
def z78:Ann :=.nil
def zbp:Ann:=(.seq .nil (.seq (.seq .nil (.blk (.loopBD ⟨[⟨false,8,0,(.int .i64),[],false⟩],[]⟩ ⟨[],[]⟩ 0 .nil))) .nil))
def z9g:Ann :=.nil
def z9i:Ann :=.nil
def zb5:Ann:=(.seq .nil (.seq .nil (.seq .nil (.seq (.seq .nil (.blk (.loopBD ⟨[⟨false,22,0,(.int .i64),[],false⟩],[]⟩ ⟨[],[]⟩ 0 (.seq .nil (.seq .nil (.seq (.blk (.seq .nil (.seq (.frz 9 .nil) .nil))) .nil)))))) .nil))))
def z6n:Ann:=(.seq .nil (.seq (.seq .nil (.blk (.loopBD ⟨[⟨false,8,0,(.int .i64),[],false⟩],[]⟩ ⟨[],[]⟩ 0 .nil))) .nil))
def z5v:Ann :=.nil
def zha:Ann :=.nil
def z86:Ann :=.nil
def z9h:Ann:=(.seq .nil (.seq (.frz 3 .nil) (.seq (.seq .nil (.blk (.loopB ⟨[⟨false,5,0,(.slice .str),[([],some 801000500)],false⟩,⟨false,12,0,(.int .i64),[],false⟩],[]⟩ ⟨[⟨false,5,0,(.slice .str),[([],some 1601000500)],false⟩],[]⟩ 0 (.seq .nil (.seq .nil (.seq (.blk (.seq .nil (.seq .nil (.blk (.loopB ⟨[⟨false,5,0,(.slice .str),[([],some 1901000500)],false⟩,⟨false,18,0,(.int .i64),[],false⟩],[]⟩ ⟨[⟨false,5,0,(.slice .str),[([],some 2201000500)],false⟩],[]⟩ 2 (.seq .nil (.seq .nil (.seq (.blk (.seq .nil (.seq (.frz 9 .nil) (.join ⟨[⟨false,5,0,(.slice .str),[([],some 2301000500)],false⟩],[]⟩ .nil .nil)))) .nil)))))))) .nil)))))) .nil)))
def zd9:Ann :=.nil
def Is:Ann:=(.seq .nil (.seq .nil (.seq (.seq .nil (.blk (.loopBD ⟨[⟨false,5,0,(.int .i64),[],false⟩],[]⟩ ⟨[],[]⟩ 0 .nil))) .nil)))
def zg8:Ann :=.nil
def LC:Ann :=.nil
def Iv:Ann :=.nil
def Iu:Ann :=.nil
def Iw:Ann :=.nil
def zqq:Ann :=.nil
def zqr:Ann:=(.seq .nil (.seq .nil (.seq (.seq .nil (.blk (.loopBD ⟨[⟨false,3,0,(.int .i64),[],false⟩],[]⟩ ⟨[],[]⟩ 0 .nil))) .nil)))
abbrev Rv:Sig:=⟨114,[(.int .i64)],[.str],fun x=>strconv_Itoa x⟩
abbrev zqu:Sig:=⟨117,[.str,.str],[(.slice .str)],fun x=>strings_Split x.1 x.2⟩
abbrev Ru:Sig:=⟨170,[.str],[(.int .i64),.err],fun x=>strconv_Atoi x⟩
abbrev z7t:Sig:=⟨84,[Xf,(.slice (.int .i64))],[(.seq (.slice (.int .i64)))],fun x=>iQ x.1 x.2⟩
abbrev nM:Sig:=⟨187,[(.slice .str)],[(.slice .str)],fun x=>slices_Clone_string x⟩
abbrev uE:Sig:=⟨91,[(.slice (.int .i64))],[(.seq (.int .i64))],fun x=>iJ x⟩
abbrev uC:Sig:=⟨90,[(.seq (.int .i64))],[(.slice (.int .i64))],fun x=>bZ x⟩
abbrev nI:Sig:=⟨24,[Jc,(.slice Yy)],[(.slice (.int .i64)),(.int .i64),(.int .i64)],fun x=>nz x.1 x.2⟩
abbrev uN:Sig:=⟨56,[.str],[GV,(.int .i64),(.int .i64)],fun x=>iK x⟩
abbrev Cl:Sig:=⟨80,[(.slice (.int .i64))],[(.int .i64)],fun x=>Jb x⟩
abbrev Ep:Sig:=⟨81,[.bool,(.int .i64)],[(.int .i64)],fun x=>Z1 x.1 x.2⟩
abbrev GX:Sig:=⟨89,[(.int .i64),(.int .i64),(.int .i64)],[.bool],fun x=>Vt x.1 x.2.1 x.2.2⟩
abbrev uy:Sig:=⟨99,[.str],[.bool],fun x=>GU x⟩
abbrev uz:Sig:=⟨122,[(.int .i64)],[.bool],fun x=>bU x⟩
abbrev uO:Sig:=⟨123,[(.int .i64)],[.bool],fun x=>ce x⟩
abbrev uB:Sig:=⟨124,[(.int .i64)],[.bool],fun x=>bV x⟩
abbrev zfp:Sig:=⟨125,[(.int .i64)],[.bool],fun x=>iD x⟩
abbrev zbj:Sig:=⟨58,[GV],[(.int .i64)],fun x=>EY x⟩
abbrev zcj:Sig:=⟨63,[EX],[(.int .i64)],fun x=>nF x⟩
abbrev zgx:Sig:=⟨82,[EX,GV],[.bool],fun x=>nr x.1 x.2⟩
abbrev zbh:Sig:=⟨19,[EX,GV],[wP,(.int .i64)],fun x=>z59 x.1 x.2⟩
abbrev zak:Sig:=⟨144,[(.slice (.int .i64)),(.fn (.int .i64) .bool)],[(.int .i64)],fun x=>nJ x.1 x.2⟩
abbrev Pk:Sig:=⟨87,[(.slice (.int .i64)),(.fn (.int .i64) .bool)],[.bool],fun x=>iO x.1 x.2⟩
abbrev z8q:Sig:=⟨110,[(.int .i64),(.ptr (.int .i64))],[.bool],fun x=>nN x.1 x.2⟩
abbrev za1:Sig:=⟨109,[(.int .i64),(.slice (.int .i64))],[.bool],fun x=>Ba x.1 x.2⟩
abbrev zbi:Sig:=⟨51,[Jc],[(.int .i64)],fun x=>nG x⟩
abbrev z55:Sig:=⟨180,[(.slice Yy),(.fn Yy .bool)],[(.int .i64)],fun x=>nQ x.1 x.2⟩
abbrev z4e:Sig:=⟨139,[(.slice Yy),(.fn Yy .bool)],[.bool],fun x=>nR x.1 x.2⟩
abbrev zfo:Sig:=⟨140,[Yy],[.bool],fun x=>nv x⟩
abbrev Rz:Sig:=⟨83,[Jc,(.slice Yy)],[Xf,(.int .i64)],fun x=>bP x.1 x.2⟩
abbrev zel:Sig:=⟨85,[(.int .i64)],[(.slice (.int .i64))],fun x=>iG x⟩
abbrev RA:Sig:=⟨183,[(.int .i64)],[(.int .i64)],fun x=>C3 x⟩
abbrev uT:Sig:=⟨181,[Xf,(.slice (.int .i64)),(.int .i64)],[(.arr 5 .bool)],fun x=>iN x.1 x.2.1 x.2.2⟩
abbrev zdl:Sig:=⟨212,[(.slice .bool),.bool],[(.int .i64)],fun x=>nA x.1 x.2⟩
abbrev uQ:Sig:=⟨182,[(.slice .bool),.bool],[.bool],fun x=>iM x.1 x.2⟩
abbrev zei:Sig:=⟨177,[(.slice (.int .i64)),(.int .i64)],[(.int .i64)],fun x=>vW x.1 x.2⟩
abbrev R8:Sig:=⟨133,[(.slice (.int .i64)),(.int .i64)],[.bool],fun x=>jS x.1 x.2⟩
abbrev R7:Sig:=⟨143,[Xf,(.int .i64),(.int .i64)],[(.int .i64)],fun x=>z40 x.1 x.2.1 x.2.2⟩
abbrev zal:Sig:=⟨86,[Xf,(.slice (.int .i64))],[(.int .i64)],fun x=>C8 x.1 x.2⟩
abbrev zcl:Sig:=⟨88,[(.int .i64)],[.bool],fun x=>nE x⟩
abbrev zbg:Sig:=⟨92,[Xf,(.slice (.int .i64))],[(.int .i64)],fun x=>nH x.1 x.2⟩
abbrev zen:Sig:=⟨26,[Jc,(.slice Yy),(.slice (.int .i64))],[(.int .i64),(.int .i64)],fun x=>nw x.1 x.2.1 x.2.2⟩
abbrev Ii:Sig:=⟨32,[(.slice (.int .i64)),(.slice (.int .i64))],[.bool],fun x=>lU x.1 x.2⟩
abbrev zci:Sig:=⟨37,[(.slice (.slice .str))],[(.int .i64),(.int .i64)],fun x=>AJ x⟩
abbrev zbf:Sig:=⟨148,[(.slice (.slice .str))],[(.slice (.slice .str))],fun x=>ca x⟩
abbrev zdn:Sig:=⟨100,[(.slice (.slice .str))],[(.slice (.slice .str)),(.int .i64)],fun x=>bX x⟩
abbrev z8o:Sig:=⟨188,[(.slice (.slice .str)),(.fn (.slice .str) .bool)],[(.int .i64)],fun x=>iP x.1 x.2⟩
abbrev z6w:Sig:=⟨150,[(.slice (.slice .str)),(.fn (.slice .str) .bool)],[.bool],fun x=>AL x.1 x.2⟩
abbrev R9:Sig:=⟨189,[(.slice .str),.str],[(.int .i64)],fun x=>jR x.1 x.2⟩
abbrev uS:Sig:=⟨152,[(.slice .str),.str],[.bool],fun x=>jM x.1 x.2⟩
abbrev z99:Sig:=⟨151,[(.slice .str),(.ptr .str)],[.bool],fun x=>ck x.1 x.2⟩
abbrev uP:Sig:=⟨103,[(.slice (.slice .str)),(.slice .str)],[(.slice (.slice .str)),(.int .i64)],fun x=>C7 x.1 x.2⟩
abbrev z6j:Sig:=⟨190,[(.slice .str),(.fn .str .bool)],[(.int .i64)],fun x=>z24 x.1 x.2⟩
abbrev z5n:Sig:=⟨153,[(.slice .str),(.fn .str .bool)],[.bool],fun x=>Be x.1 x.2⟩
abbrev zgy:Sig:=⟨155,[(.slice .str),.str,.str],[.bool],fun x=>iC x.1 x.2.1 x.2.2⟩
abbrev z7s:Sig:=⟨154,[.str,(.ptr (.slice .str)),(.ptr .str)],[.bool],fun x=>Bd x.1 x.2.1 x.2.2⟩
abbrev z98:Sig:=⟨104,[(.slice (.slice .str)),(.slice .str)],[(.slice .str)],fun x=>Bc x.1 x.2⟩
abbrev zcm:Sig:=⟨40,[(.slice (.slice .str)),(.slice .str)],[(.slice .str),(.int .i64)],fun x=>nD x.1 x.2⟩
abbrev U8:Sig:=⟨46,[(.slice .str),(.slice .str)],[.bool],fun x=>CP x.1 x.2⟩
abbrev RJ:Sig:=⟨127,[.str],[(.int .i64),.bool],fun x=>iF x⟩
abbrev Ij:Sig:=⟨75,[],[(.slice (.slice .str))],fun _=>l5⟩
abbrev IZ:Sig:=⟨76,[],[Jc],fun _=>gN⟩
abbrev IY:Sig:=⟨77,[],[(.slice Yy)],fun _=>gM⟩
abbrev I0:Sig:=⟨15,[],[.bool],fun _=>bB⟩
abbrev zqb:Sig:=⟨20,[(.int .i64),(.int .i64),(.int .i64)],[.bool],fun x=>As x.1 x.2.1 x.2.2⟩
abbrev zqc:Sig:=⟨78,[.str],[.bool],fun x=>gY x⟩
end Go.Lift
end
