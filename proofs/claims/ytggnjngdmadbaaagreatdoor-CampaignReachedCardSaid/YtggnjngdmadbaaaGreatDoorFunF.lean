/-
  The functions that the laws of the chapter reach, as plain functions.
-/
import Derived.Lib.Join
import Derived.Lib.ItoaNum
import Derived.Test.YtggnjngdmadbaaaGreatDoorLiftN
noncomputable section
set_option linter.unusedSectionVars false
set_option linter.unusedVariables false
set_option linter.unusedSimpArgs false
namespace Go.Lift
open Go
def wi64(x:Int):Int:=IntKind.i64.wrap x
def bytes(l:List UInt8):ByteArray:=⟨l.toArray⟩
end Go.Lift
namespace Go.Lift
abbrev z0d:Ty :=.pair (.int .i64) (.int .i64)
abbrev z0t:Type:=(Int×Int)
abbrev z09:Ty :=.pair (.int .i64) (.pair (.int .i64) z0d)
abbrev z03:Type:=(Int×(Int×z0t))
abbrev z26:Ty :=.pair .str z09
abbrev z1m:Type:=(ByteArray×z03)
abbrev z16:Ty :=.pair .str (.pair (.int .i64) (.pair (.int .i64) (.pair (.int .i64) (.pair (.int .i64) (.pair z0d (.int .i64))))))
abbrev z00:Type:=(ByteArray×(Int×(Int×(Int×(Int×(z0t×Int))))))
abbrev z0r:Ty :=.pair (.int .i64) (.pair (.int .i64) (.pair (.int .i64) (.pair (.int .i64) (.pair (.int .i64) z09))))
abbrev z0f:Type:=(Int×(Int×(Int×(Int×(Int×z03)))))
abbrev z0h:Ty :=.pair z0r (.slice z09)
abbrev z04:Type:=(z0f×(List z03))
abbrev y9w:Ty :=.pair (.slice (.int .i64)) (.slice (.int .i64))
abbrev ztt:Ty :=.pair (.slice (.slice .str)) (.int .i64)
abbrev z0b:Ty :=.pair (.slice (.slice .str)) (.pair (.slice .str) (.pair (.slice z0d) (.int .i64)))
abbrev z39:Type:=((List (List ByteArray))×((List ByteArray)×((List z0t)×Int)))
abbrev zdt:Ty :=.pair (.int .i64) (.pair (.int .i64) (.pair .bool (.int .u8)))
abbrev z87:Ty :=.pair .str (.int .u64)
abbrev zde:Ty :=.pair (.slice .str) (.int .i64)
abbrev zh6:Ty :=.pair .str (.pair .str .err)
abbrev zc7:Ty :=.pair (.int .u8) (.int .u8)
abbrev zez:Ty :=.one .str
def z1e(l:(List Int)):Option (Int):=
 (z2l (S:=Int) (R:=(Unit)⊕(Int)) (fun t=>
 bif decide (t < (List.length l:Int)) then
 chk (decide ((0:Int)≤t)&&decide (t < (List.length l:Int))) (
 bif ((lget 0 l t) != 0) then
 Option.map Sum.inr (Option.map Sum.inr (
 some (lget 0 l t)))
 else
 some (.inl (wi64 (t+1))))
 else
 some (.inr (.inl ()))) 0).bind fun j=>match j with
 |.inl _=>(
 some 0)
 |.inr r=>some r
def z0c(is:Bool)(e:Int):Option (Int):=
 bif is then
 some 0
 else
 some e
def z0m(n:Int)(lo:Int)(hi:Int):Option (Bool):=
 let t:Bool:=((decide (lo≤n))&&(decide (n≤hi)))
 some t
def z1o(s:ByteArray):Option (Bool):=
 (z2l (S:=Int) (R:=(Unit)⊕(Bool)) (fun t=>
 bif decide (t < (List.length (z3k s):Int)) then
 chk (decide ((0:Int)≤t)&&decide (t < (List.length (z3k s):Int))) (
 let c:Int:=lget 0 (z3k s) t
 (z0m (wi64 c) 97 122).bind fun(t_1:Bool)=>
 (bif t_1 then some true else
 (z0m (wi64 c) 65 90).bind fun(t_2:Bool)=>
 some t_2).bind fun(c_1:Bool)=>
 (bif !c_1 then
 (bif (t == 0) then some true else
 (bif (c != 45) then
 (z0m (wi64 c) 48 57).bind fun(t_3:Bool)=>
 some (!t_3)
 else some false).bind fun(c_2:Bool)=>
 some c_2).bind fun(c_3:Bool)=>
 some c_3
 else some false).bind fun(c_4:Bool)=>
 bif c_4 then
 Option.map Sum.inr (Option.map Sum.inr (
 some false))
 else
 some (.inl (wi64 (t+1))))
 else
 some (.inr (.inl ()))) 0).bind fun j=>match j with
 |.inl _=>(
 (z0m (ByteArray.size s:Int) 1 12).bind fun(t_4:Bool)=>
 some t_4)
 |.inr r=>some r
def z4k(n:Int):Option (Bool):=
 (z0m n 1 99).bind fun(t:Bool)=>
 some t
def z2y(n:Int):Option (Bool):=
 (z0m n 1 300000).bind fun(t:Bool)=>
 some t
def z4j(n:Int):Option (Bool):=
 (z0m n 500 2500).bind fun(t:Bool)=>
 some t
def z6c(n:Int):Option (Bool):=
 (z0m n 0 20000).bind fun(t:Bool)=>
 some t
def z1k(o:z00):Option (Int):=
 (z4k o.2.1).bind fun(t:Bool)=>
 (bif t then
 (z2y o.2.2.1).bind fun(t_1:Bool)=>
 some t_1
 else some false).bind fun(c:Bool)=>
 (bif c then
 (z0m o.2.2.2.1 0 (wi64 (o.2.2.1-1))).bind fun(t_2:Bool)=>
 some t_2
 else some false).bind fun(c_1:Bool)=>
 (bif c_1 then
 (z4j o.2.2.2.2.1).bind fun(t_3:Bool)=>
 some t_3
 else some false).bind fun(c_2:Bool)=>
 (bif c_2 then
 (z6c o.2.2.2.2.2.1.1).bind fun(t_4:Bool)=>
 some t_4
 else some false).bind fun(c_3:Bool)=>
 (bif c_3 then
 (z6c o.2.2.2.2.2.1.2).bind fun(t_5:Bool)=>
 some t_5
 else some false).bind fun(c_4:Bool)=>
 (z1o o.1).bind fun(t_6:Bool)=>
 (z0c t_6 4).bind fun(t_7:Int)=>
 (z0c c_4 2).bind fun(t_8:Int)=>
 (z0c (decide (o.2.2.2.2.2.1.1≤o.2.2.2.2.2.1.2)) 9).bind fun(t_9:Int)=>
 chk (10 != 0) (
 let t_10:Int:=Int.tmod o.2.2.2.2.2.1.1 10
 (bif (t_10 == 0) then
 chk (10 != 0) (
 let t_11:Int:=Int.tmod o.2.2.2.2.2.1.2 10
 some (t_11 == 0))
 else some false).bind fun(c_5:Bool)=>
 (z0c c_5 3).bind fun(t_12:Int)=>
 (z0m o.2.2.2.2.2.2 0 100000).bind fun(t_13:Bool)=>
 (z0c t_13 2).bind fun(t_14:Int)=>
 (z1e [t_7,t_8,t_9,t_12,t_14]).bind fun(t_15:Int)=>
 some t_15)
def z5r(s:z1m):Option (Int):=
 (z4k s.2.1).bind fun(t:Bool)=>
 (bif t then
 (z2y s.2.2.1).bind fun(t_1:Bool)=>
 some t_1
 else some false).bind fun(c:Bool)=>
 (bif c then
 (z4j s.2.2.2.1).bind fun(t_2:Bool)=>
 some t_2
 else some false).bind fun(c_1:Bool)=>
 (bif c_1 then
 (z0m s.2.2.2.2 1 20000).bind fun(t_3:Bool)=>
 some t_3
 else some false).bind fun(c_2:Bool)=>
 (z1o s.1).bind fun(t_4:Bool)=>
 (z0c t_4 4).bind fun(t_5:Int)=>
 (z0c c_2 2).bind fun(t_6:Int)=>
 (z1e [t_5,t_6]).bind fun(t_7:Int)=>
 some t_7
def z9c(s:z1m)(o:z00):Option (Bool):=
 (bif (s.2.1 == o.2.1) then
 (z0m s.2.2.2.1 o.2.2.2.2.1 (wi64 (o.2.2.2.2.1+100))).bind fun(t:Bool)=>
 some t
 else some false).bind fun(c:Bool)=>
 some c
def z5e(s:z1m)(o:z00):Option (z0t×Int):=
 (z5r s).bind fun(t:Int)=>
 (z1k o).bind fun(t_1:Int)=>
 (z9c s o).bind fun(t_2:Bool)=>
 (z0c t_2 13).bind fun(t_3:Int)=>
 (z1e [t,t_1,t_3]).bind fun(t_4:Int)=>
 bif (t_4 != 0) then
 some ((0,0),t_4)
 else
 let volume:Int:=wi64 ((wi64 (s.2.2.1*s.2.2.2.1))*s.2.2.2.2)
 let thin:Int:=wi64 ((wi64 (o.2.2.1-o.2.2.2.1))*o.2.2.2.2.1)
 let thick:Int:=wi64 ((wi64 (o.2.2.1+o.2.2.2.1))*o.2.2.2.2.1)
 chk (thick != 0) (
 let t_5:Int:=wi64 (Int.tdiv volume thick)
 chk (thin != 0) (
 let t_6:Int:=wi64 (Int.tdiv (wi64 ((wi64 (volume+thin))-1)) thin)
 some ((t_5,t_6),0)))
def z4p(s:(List Int))(f:(Int→Option Bool)):Option (Int):=
 (z2l (S:=Int) (R:=(Unit)⊕(Int)) (fun t=>
 bif decide (t < (List.length s:Int)) then
 chk (decide ((0:Int)≤t)&&decide (t < (List.length s:Int))) (
 (f (lget 0 s t)).bind fun(t_1:Bool)=>
 bif t_1 then
 Option.map Sum.inr (Option.map Sum.inr (
 some t))
 else
 some (.inl (wi64 (t+1))))
 else
 some (.inr (.inl ()))) 0).bind fun j=>match j with
 |.inl _=>(
 some (-1))
 |.inr r=>some r
def z2r(s:(List Int))(f:(Int→Option Bool)):Option (Bool):=
 (z4p s f).bind fun(t:Int)=>
 some (decide (t≥0))
def z3o(n:Int)(x:Int):Option (Bool):=
 (z0m n 0 x).bind fun(t:Bool)=>
 some (!t)
def z1p(most:Int)(l:(List Int)):Option (Bool):=
 (z2r l (fun x=>z3o x most)).bind fun(t:Bool)=>
 some (!t)
def z5f(r:z0f):Option (Int):=
 (z1p 7 [r.1]).bind fun(t:Bool)=>
 (bif t then
 (z1p 300000 [r.2.1,r.2.2.1,r.2.2.2.1]).bind fun(t_1:Bool)=>
 some t_1
 else some false).bind fun(c:Bool)=>
 (bif c then
 (z1p 99 [r.2.2.2.2.1]).bind fun(t_2:Bool)=>
 some t_2
 else some false).bind fun(c_1:Bool)=>
 (bif c_1 then
 (z1p 70000 [r.2.2.2.2.2.1]).bind fun(t_3:Bool)=>
 some t_3
 else some false).bind fun(c_2:Bool)=>
 (bif c_2 then
 (z1p 10000 [r.2.2.2.2.2.2.1,r.2.2.2.2.2.2.2.1,r.2.2.2.2.2.2.2.2]).bind fun(t_4:Bool)=>
 some t_4
 else some false).bind fun(c_3:Bool)=>
 (z0c c_3 2).bind fun(t_5:Int)=>
 some t_5
def z1t(s:(List z03))(f:(z03→Option Bool)):Option (Int):=
 (z2l (S:=Int) (R:=(Unit)⊕(Int)) (fun t=>
 bif decide (t < (List.length s:Int)) then
 chk (decide ((0:Int)≤t)&&decide (t < (List.length s:Int))) (
 (f (lget (0,(0,(0,0))) s t)).bind fun(t_1:Bool)=>
 bif t_1 then
 Option.map Sum.inr (Option.map Sum.inr (
 some t))
 else
 some (.inl (wi64 (t+1))))
 else
 some (.inr (.inl ()))) 0).bind fun j=>match j with
 |.inl _=>(
 some (-1))
 |.inr r=>some r
def z1j(s:(List z03))(f:(z03→Option Bool)):Option (Bool):=
 (z1t s f).bind fun(t:Int)=>
 some (decide (t≥0))
def z83(x:z03):Option (Bool):=
 (z4j x.1).bind fun(t:Bool)=>
 (bif !t then some true else
 (z2y x.2.1).bind fun(t_1:Bool)=>
 some (!t_1)).bind fun(c:Bool)=>
 (bif c then some true else
 (z4k x.2.2.1).bind fun(t_2:Bool)=>
 some (!t_2)).bind fun(c_1:Bool)=>
 (bif c_1 then some true else
 (z0m x.2.2.2 1 10000).bind fun(t_3:Bool)=>
 some (!t_3)).bind fun(c_2:Bool)=>
 some c_2
def z6r(r:z0f)(l:(List z03)):Option (z04×Int):=
 (z1j l (fun x=>z83 x)).bind fun(t:Bool)=>
 (z5f r).bind fun(t_1:Int)=>
 (z0c (decide ((List.length l:Int) > 0)) 10).bind fun(t_2:Int)=>
 (z0c (decide ((List.length l:Int)≤7)) 8).bind fun(t_3:Int)=>
 (z0c (!t) 2).bind fun(t_4:Int)=>
 (z1e [t_1,t_2,t_3,t_4]).bind fun(t_5:Int)=>
 some ((r,l),t_5)
def z5n(count:Int):Option ((List Int)):=
 (z2l (S:=(List Int)×Int) (R:=(List Int)) (fun s=>
 let out:(List Int):=s.1
 let t:Int:=s.2
 bif decide (t < count) then
 (app out [t]).bind fun(t_1:List Int)=>
 some (.inl (t_1,wi64 (t+1)))
 else
 some (.inr out)) ([],0)).bind fun(out_1:(List Int))=>
 some out_1
def z50(n:Int):Option (Int):=
 let t:Int:=imax n (wi64 (0-n))
 some t
def z2t(r:z04)(sequence:(List Int))(p:Int):Option ((Nat→Bool)):=
 chk (decide ((0:Int)≤0)&&decide ((0:Int)≤(wi64 (p+1)))&&decide ((wi64 (p+1))≤(List.length sequence:Int))) (
 (z2l (S:=Int×Int) (R:=Int) (fun s=>
 let metres:Int:=s.1
 let t:Int:=s.2
 bif decide (t < (List.length (List.drop (Int.toNat 0) (List.take (Int.toNat (wi64 (p+1))) sequence)):Int)) then
 chk (decide ((0:Int)≤t)&&decide (t < (List.length (List.drop (Int.toNat 0) (List.take (Int.toNat (wi64 (p+1))) sequence)):Int))) (
 let i:Int:=lget 0 (List.drop (Int.toNat 0) (List.take (Int.toNat (wi64 (p+1))) sequence)) t
 chk (decide ((0:Int)≤i)&&decide (i < (List.length r.2:Int))) (
 let metres_1:Int:=wi64 (metres+((((lget (0,(0,(0,0))) r.2 i).2).2).2))
 some (.inl (metres_1,wi64 (t+1)))))
 else
 some (.inr metres)) (0,0)).bind fun(metres_2:Int)=>
 chk (decide ((0:Int)≤0)&&decide ((0:Int) < 5)) (
 let out:(Nat→Bool):=aset (fun _=>false) 0 (decide (metres_2 > r.1.2.2.2.2.2.1))
 bif (p == 0) then
 some out
 else
 chk (decide ((0:Int)≤p)&&decide (p < (List.length sequence:Int))) (
 chk (decide ((0:Int)≤(lget 0 sequence p))&&decide ((lget 0 sequence p) < (List.length r.2:Int))) (
 chk (decide ((0:Int)≤(wi64 (p-1)))&&decide ((wi64 (p-1)) < (List.length sequence:Int))) (
 chk (decide ((0:Int)≤(lget 0 sequence (wi64 (p-1))))&&decide ((lget 0 sequence (wi64 (p-1))) < (List.length r.2:Int))) (
 let x:z03:=lget (0,(0,(0,0))) r.2 (lget 0 sequence p)
 let y:z03:=lget (0,(0,(0,0))) r.2 (lget 0 sequence (wi64 (p-1)))
 (bif decide (p < r.1.1) then
 chk (decide ((0:Int)≤1)&&decide ((1:Int) < 5)) (
 let out_1:(Nat→Bool):=aset out 1 (decide ((wi64 (x.1-y.1)) < 0))
 some out_1)
 else
 chk (decide ((0:Int)≤1)&&decide ((1:Int) < 5)) (
 let out_2:(Nat→Bool):=aset out 1 (decide ((wi64 (x.1-y.1)) > 0))
 some out_2)).bind fun(out_3:(Nat→Bool))=>
 (z0m (wi64 (x.1-y.1)) (wi64 (0-r.1.2.2.1)) r.1.2.1).bind fun(t_1:Bool)=>
 chk (decide ((0:Int)≤2)&&decide ((2:Int) < 5)) (
 let out_4:(Nat→Bool):=aset out_3 2 (!t_1)
 (z50 (wi64 (x.2.1-y.2.1))).bind fun(t_2:Int)=>
 chk (decide ((0:Int)≤3)&&decide ((3:Int) < 5)) (
 let out_5:(Nat→Bool):=aset out_4 3 (decide (t_2 > r.1.2.2.2.1))
 (z50 (wi64 (x.2.2.1-y.2.2.1))).bind fun(t_3:Int)=>
 chk (decide ((0:Int)≤4)&&decide ((4:Int) < 5)) (
 let out_6:(Nat→Bool):=aset out_5 4 (decide (t_3 > r.1.2.2.2.2.1))
 some out_6)))))))))
def z65(s:(List Bool))(v:Bool):Option (Int):=
 (z2l (S:=Int) (R:=(Unit)⊕(Int)) (fun t=>
 bif decide (t < (List.length s:Int)) then
 chk (decide ((0:Int)≤t)&&decide (t < (List.length s:Int))) (
 bif (v == (lget false s t)) then
 Option.map Sum.inr (Option.map Sum.inr (
 some t))
 else
 some (.inl (wi64 (t+1))))
 else
 some (.inr (.inl ()))) 0).bind fun j=>match j with
 |.inl _=>(
 some (-1))
 |.inr r=>some r
def z3p(s:(List Bool))(v:Bool):Option (Bool):=
 (z65 s v).bind fun(t:Int)=>
 some (decide (t≥0))
def slices_Index_int(s:(List Int))(v:Int):Option (Int):=
 (z2l (S:=Int) (R:=(Unit)⊕(Int)) (fun t=>
 bif decide (t < (List.length s:Int)) then
 chk (decide ((0:Int)≤t)&&decide (t < (List.length s:Int))) (
 bif (v == (lget 0 s t)) then
 Option.map Sum.inr (Option.map Sum.inr (
 some t))
 else
 some (.inl (wi64 (t+1))))
 else
 some (.inr (.inl ()))) 0).bind fun j=>match j with
 |.inl _=>(
 some (-1))
 |.inr r=>some r
def slices_Contains_int(s:(List Int))(v:Int):Option (Bool):=
 (slices_Index_int s v).bind fun(t:Int)=>
 some (decide (t≥0))
def catM{α β:Type}(f:α→Option (List β)):List α→Option (List β)
 |[]=>some []
 |a::l=>(f a).bind fun x=>(catM f l).bind fun y=>some (x++y)
def zok(r:z04)(begun:List Int):Option Bool:=
 bif decide ((begun.length:Int) > 0) then(z2t r begun (wi64 ((begun.length:Int)-1))).bind fun v=>z3p ((List.range 5).map v) true else some false
def zxm(r:z04)(items:List Int):Nat→List Int→Option (List (List Int))
 |m,begun=>(zok r begun).bind fun bad=>bif bad then some [] else bif ((begun.length:Int) == (items.length:Int)) then some [begun] else match m with
  |0=>none
  |m+1=>catM (fun i=>(slices_Contains_int begun i).bind fun t=>bif t then some [] else zxm r items m (begun++[i])) items
def z2i(r:z04)(items:List Int):Option (List (List Int)):=bif decide (items.length≤1000) then zxm r items (items.length+1) [] else none
def z44(r:z04)(a:Int)(b:Int):Option (Int):=
 chk (decide ((0:Int)≤a)&&decide (a < (List.length r.2:Int))) (
 chk (decide ((0:Int)≤b)&&decide (b < (List.length r.2:Int))) (
 let x:z03:=lget (0,(0,(0,0))) r.2 a
 let y:z03:=lget (0,(0,(0,0))) r.2 b
 (z50 (wi64 (x.1-y.1))).bind fun(t:Int)=>
 (z50 (wi64 (x.2.1-y.2.1))).bind fun(t_1:Int)=>
 (z50 (wi64 (x.2.2.1-y.2.2.1))).bind fun(t_2:Int)=>
 let t_3:Int:=wi64 ((wi64 ((wi64 (r.1.2.2.2.2.2.2.1*t))+(wi64 (r.1.2.2.2.2.2.2.2.1*t_1))))+(wi64 (r.1.2.2.2.2.2.2.2.2*t_2)))
 some t_3))
def z1x(r:z04)(sequence:(List Int)):Option (Int):=
 (z2l (S:=Int×Int) (R:=Int) (fun s=>
 let sum:Int:=s.1
 let p:Int:=s.2
 bif decide (p < (List.length sequence:Int)) then
 chk (decide ((0:Int)≤(wi64 (p-1)))&&decide ((wi64 (p-1)) < (List.length sequence:Int))) (
 chk (decide ((0:Int)≤p)&&decide (p < (List.length sequence:Int))) (
 (z44 r (lget 0 sequence (wi64 (p-1))) (lget 0 sequence p)).bind fun(t:Int)=>
 some (.inl (wi64 (sum+t),wi64 (p+1)))))
 else
 some (.inr sum)) (0,1)).bind fun(sum_1:Int)=>
 some sum_1
def y6f(x:z04)(s:List Int)(b:Option (List Int×Int)):Option (Option (List Int×Int)):=
 (z1x x s).bind fun n=>match b with
  |none=>some (some (s,n))
  |some c=>chk (!c.1.isEmpty) (bif decide (n < c.2) then some (some (s,n)) else some (some c))
def y6g(x:z04):List (List Int)→Option (List Int×Int)→Option (Option (List Int×Int))
 |[],b=>some b
 |s::cs,b=>(y6f x s b).bind fun d=>y6g x cs d
def z6d(r:z0f)(l:List z03):Option (List Int×Int×Int):=
 (z6r r l).bind fun x=>bif x.2 != 0 then some ([],0,x.2) else
 (z5n (l.length:Int)).bind fun ns=>(z2i x.1 ns).bind fun cs=>(y6g x.1 cs none).bind fun b=>match b with
 |none=>some ([],0,12)
 |some c=>chk (!c.1.isEmpty) (some (c.1,c.2,0))
def z5s(n:Int):Option (Bool):=
 (z0m n (-10000) 10000).bind fun(t:Bool)=>
 some (!t)
def z40(x:List Int):Option (List Int):=bif decide (x.length≤1000000) then some (x.mergeSort fun a b=>decide (a≤b)) else none
def z55(x:List Int):Option (List Int):=bif decide (x.length≤1000000) then some x else none
def z5d(r:z04)(prices:(List Int)):Option (Int):=
 (z2l (S:=(List Int)×Int) (R:=Int) (fun s=>
 let in_:(List Int):=s.1
 let sum:Int:=s.2
 bif decide ((List.length in_:Int) < (List.length r.2:Int)) then
 (z2l (S:=Int×Int×Int) (R:=Int×Int) (fun s_1=>
 let next:Int:=s_1.1
 let least:Int:=s_1.2.1
 let t:Int:=s_1.2.2
 bif decide (t < (List.length in_:Int)) then
 chk (decide ((0:Int)≤t)&&decide (t < (List.length in_:Int))) (
 (z2l (S:=Int×Int×Int) (R:=Int×Int) (fun s_2=>
 let next_1:Int:=s_2.1
 let least_1:Int:=s_2.2.1
 let t_1:Int:=s_2.2.2
 bif decide (t_1 < (List.length r.2:Int)) then
 (z44 r (lget 0 in_ t) t_1).bind fun(t_2:Int)=>
 chk (decide ((0:Int)≤(lget 0 in_ t))&&decide ((lget 0 in_ t) < (List.length prices:Int))) (
 chk (decide ((0:Int)≤t_1)&&decide (t_1 < (List.length prices:Int))) (
 let n:Int:=wi64 ((wi64 (t_2-(lget 0 prices (lget 0 in_ t))))-(lget 0 prices t_1))
 (slices_Contains_int in_ t_1).bind fun(t_3:Bool)=>
 (bif ((!t_3)&&((decide (next_1 < 0))||(decide (n < least_1)))) then
 some (t_1,n)
 else
 some (next_1,least_1)).bind fun(j:Int×Int)=>
 let next_2:Int:=j.1
 let least_2:Int:=j.2
 some (.inl (next_2,least_2,wi64 (t_1+1)))))
 else
 some (.inr (next_1,least_1))) (next,least,0)).bind fun(b:Int×Int)=>
 let next_3:Int:=b.1
 let least_3:Int:=b.2
 some (.inl (next_3,least_3,wi64 (t+1))))
 else
 some (.inr (next,least))) ((-1),0,0)).bind fun(b_1:Int×Int)=>
 let next_4:Int:=b_1.1
 let least_4:Int:=b_1.2
 (app in_ [next_4]).bind fun(t_4:List Int)=>
 let sum_1:Int:=wi64 (sum+least_4)
 some (.inl (t_4,sum_1))
 else
 some (.inr sum)) ([0],0)).bind fun(sum_2:Int)=>
 some sum_2
def z6x(r:z0f)(l:(List z03))(prices:(List Int)):Option (Int×Int):=
 (z6r r l).bind fun(r_1:z04×Int)=>
 (z2r prices (fun x=>z5s x)).bind fun(t:Bool)=>
 (z0c ((List.length prices:Int) == (List.length l:Int)) 10).bind fun(t_1:Int)=>
 (z0c (!t) 2).bind fun(t_2:Int)=>
 (z1e [r_1.2,t_1,t_2]).bind fun(t_3:Int)=>
 bif (t_3 != 0) then
 some (0,t_3)
 else
 bif ((List.length l:Int) == 1) then
 some (0,0)
 else
 (z2l (S:=Int×Int) (R:=Int) (fun s=>
 let sum:Int:=s.1
 let t_4:Int:=s.2
 bif decide (t_4 < (List.length prices:Int)) then
 chk (decide ((0:Int)≤t_4)&&decide (t_4 < (List.length prices:Int))) (
 let sum_1:Int:=wi64 (sum+(wi64 (2*(lget 0 prices t_4))))
 some (.inl (sum_1,wi64 (t_4+1))))
 else
 some (.inr sum)) (0,0)).bind fun(sum_2:Int)=>
 (z55 prices).bind fun(t_5:(List Int))=>
 (z40 t_5).bind fun(t_6:(List Int))=>
 chk (decide ((0:Int)≤(wi64 ((List.length t_6:Int)-2)))&&decide (((wi64 ((List.length t_6:Int)-2)):Int)≤(List.length t_6:Int))&&decide ((List.length t_6:Int)≤(List.length t_6:Int))) (
 let top:(List Int):=List.drop (Int.toNat (wi64 ((List.length t_6:Int)-2))) (List.take (Int.toNat (List.length t_6:Int)) t_6)
 (z5d r_1.1 prices).bind fun(t_7:Int)=>
 chk (decide ((0:Int)≤0)&&decide (0 < (List.length top:Int))) (
 chk (decide ((0:Int)≤1)&&decide (1 < (List.length top:Int))) (
 let t_8:Int:=wi64 ((wi64 ((wi64 (t_7+sum_2))-(lget 0 top 0)))-(lget 0 top 1))
 some (t_8,0))))
def ztj(a:(List Int))(b:(List Int)):Option (Bool):=
 bif ((List.length a:Int) != (List.length b:Int)) then
 some false
 else
 (z2l (S:=Int) (R:=(Unit)⊕(Bool)) (fun i=>
 bif decide (i < (List.length a:Int)) then
 chk (decide ((0:Int)≤i)&&decide (i < (List.length a:Int))) (
 chk (decide ((0:Int)≤i)&&decide (i < (List.length b:Int))) (
 bif ((lget 0 a i) != (lget 0 b i)) then
 Option.map Sum.inr (Option.map Sum.inr (
 some false))
 else
 some (.inl (wi64 (i+1)))))
 else
 some (.inr (.inl ()))) 0).bind fun j=>match j with
 |.inl _=>(
 some true)
 |.inr r=>some r
def z1i(y:(List (List ByteArray))):Option (Int×Int):=
 (z0c (decide ((List.length y:Int) > 0)) 10).bind fun(t:Int)=>
 (z0c (decide ((List.length y:Int)≤4)) 8).bind fun(t_1:Int)=>
 (z1e [t,t_1]).bind fun(t_2:Int)=>
 bif (t_2 != 0) then
 some (0,t_2)
 else
 (z2l (S:=Int×(List (ByteArray×Bool))) (R:=((List (ByteArray×Bool)))⊕(Int×Int)) (fun s=>
 let t_3:Int:=s.1
 let t_4:(List (ByteArray×Bool)):=s.2
 bif decide (t_3 < (List.length y:Int)) then
 chk (decide ((0:Int)≤t_3)&&decide (t_3 < (List.length y:Int))) (
 bif decide ((List.length (lget [] y t_3):Int) > 6) then
 Option.map Sum.inr (Option.map Sum.inr (
 some (t_3,8)))
 else
 (z2l (S:=Int×(List (ByteArray×Bool))) (R:=((List (ByteArray×Bool)))⊕((Int×(List (ByteArray×Bool)))⊕(((List (ByteArray×Bool)))⊕(Int×Int)))) (fun s_1=>
 let t_5:Int:=s_1.1
 let t_6:(List (ByteArray×Bool)):=s_1.2
 bif decide (t_5 < (List.length (lget [] y t_3):Int)) then
 chk (decide ((0:Int)≤t_5)&&decide (t_5 < (List.length (lget [] y t_3):Int))) (
 let name:ByteArray:=lget ByteArray.empty (lget [] y t_3) t_5
 (z1o name).bind fun(t_7:Bool)=>
 (z0c t_7 4).bind fun(t_8:Int)=>
 (z0c (!(mget .str .bool t_6 name)) 5).bind fun(t_9:Int)=>
 (z1e [t_8,t_9]).bind fun(t_10:Int)=>
 bif (t_10 != 0) then
 Option.map Sum.inr (Option.map Sum.inr (
 Option.map Sum.inr (Option.map Sum.inr (
 some (t_3,t_10)))))
 else
 let t_11:(List (ByteArray×Bool)):=mput .str .bool t_6 name true
 some (.inl (wi64 (t_5+1),t_11)))
 else
 some (.inr (.inl t_6))) (0,t_4)).bind fun j=>match j with
 |.inl t_12=>(
 some (.inl (wi64 (t_3+1),t_12)))
 |.inr r=>some r)
 else
 some (.inr (.inl t_4))) (0,[])).bind fun j=>match j with
 |.inl t_13=>(
 (z0c (decide ((List.length t_13:Int)≤8)) 8).bind fun(t_14:Int)=>
 some (0,t_14))
 |.inr r=>some r
def slices_Clone_string(x:List ByteArray):Option (List ByteArray):=app [] x
def z2n(y:(List (List ByteArray))):Option ((List (List ByteArray))):=
 (z2l (S:=(List (List ByteArray))×Int) (R:=(List (List ByteArray))) (fun s=>
 let out:(List (List ByteArray)):=s.1
 let t:Int:=s.2
 bif decide (t < (List.length y:Int)) then
 chk (decide ((0:Int)≤t)&&decide (t < (List.length y:Int))) (
 (slices_Clone_string (lget [] y t)).bind fun(t_1:(List ByteArray))=>
 (app out [t_1]).bind fun(t_2:List (List ByteArray))=>
 some (.inl (t_2,wi64 (t+1))))
 else
 some (.inr out)) ([],0)).bind fun(out_1:(List (List ByteArray)))=>
 some out_1
def z2u(y:(List (List ByteArray))):Option ((List (List ByteArray))×Int):=
 (z1i y).bind fun(r:Int×Int)=>
 (z2n y).bind fun(t:(List (List ByteArray)))=>
 some (t,r.2)
def z2q(s:(List (List ByteArray)))(f:((List ByteArray)→Option Bool)):Option (Int):=
 (z2l (S:=Int) (R:=(Unit)⊕(Int)) (fun t=>
 bif decide (t < (List.length s:Int)) then
 chk (decide ((0:Int)≤t)&&decide (t < (List.length s:Int))) (
 (f (lget [] s t)).bind fun(t_1:Bool)=>
 bif t_1 then
 Option.map Sum.inr (Option.map Sum.inr (
 some t))
 else
 some (.inl (wi64 (t+1))))
 else
 some (.inr (.inl ()))) 0).bind fun j=>match j with
 |.inl _=>(
 some (-1))
 |.inr r=>some r
def z1b(s:(List (List ByteArray)))(f:((List ByteArray)→Option Bool)):Option (Bool):=
 (z2q s f).bind fun(t:Int)=>
 some (decide (t≥0))
def slices_Index_string(s:(List ByteArray))(v:ByteArray):Option (Int):=
 (z2l (S:=Int) (R:=(Unit)⊕(Int)) (fun t=>
 bif decide (t < (List.length s:Int)) then
 chk (decide ((0:Int)≤t)&&decide (t < (List.length s:Int))) (
 bif seqb v (lget ByteArray.empty s t) then
 Option.map Sum.inr (Option.map Sum.inr (
 some t))
 else
 some (.inl (wi64 (t+1))))
 else
 some (.inr (.inl ()))) 0).bind fun j=>match j with
 |.inl _=>(
 some (-1))
 |.inr r=>some r
def slices_Contains_string(s:(List ByteArray))(v:ByteArray):Option (Bool):=
 (slices_Index_string s v).bind fun(t:Int)=>
 some (decide (t≥0))
def z2d(pile:(List ByteArray))(x:ByteArray):Option (Bool):=
 (slices_Contains_string pile x).bind fun(t:Bool)=>
 some t
def z1y(y:(List (List ByteArray)))(request:(List ByteArray)):Option ((List (List ByteArray))×Int):=
 (z2u y).bind fun(r:(List (List ByteArray))×Int)=>
 bif (r.2 != 0) then
 some ([],r.2)
 else
 (z2l (S:=Int) (R:=(Unit)⊕((List (List ByteArray))×Int)) (fun t=>
 bif decide (t < (List.length request:Int)) then
 chk (decide ((0:Int)≤t)&&decide (t < (List.length request:Int))) (
 let name:ByteArray:=lget ByteArray.empty request t
 (z1b y (fun x=>z2d x name)).bind fun(t_1:Bool)=>
 (z0c (!(!t_1)) 6).bind fun(t_2:Int)=>
 chk (decide ((0:Int)≤0)&&decide ((0:Int)≤t)&&decide (t≤(List.length request:Int))) (
 (slices_Contains_string (List.drop (Int.toNat 0) (List.take (Int.toNat t) request)) name).bind fun(t_3:Bool)=>
 (z0c (!t_3) 23).bind fun(t_4:Int)=>
 (z1e [t_2,t_4]).bind fun(t_5:Int)=>
 bif (t_5 != 0) then
 Option.map Sum.inr (Option.map Sum.inr (
 some ([],t_5)))
 else
 some (.inl (wi64 (t+1)))))
 else
 some (.inr (.inl ()))) 0).bind fun j=>match j with
 |.inl _=>(
 some (r.1,0))
 |.inr r=>some r
def z1z(s:(List ByteArray))(f:(ByteArray→Option Bool)):Option (Int):=
 (z2l (S:=Int) (R:=(Unit)⊕(Int)) (fun t=>
 bif decide (t < (List.length s:Int)) then
 chk (decide ((0:Int)≤t)&&decide (t < (List.length s:Int))) (
 (f (lget ByteArray.empty s t)).bind fun(t_1:Bool)=>
 bif t_1 then
 Option.map Sum.inr (Option.map Sum.inr (
 some t))
 else
 some (.inl (wi64 (t+1))))
 else
 some (.inr (.inl ()))) 0).bind fun j=>match j with
 |.inl _=>(
 some (-1))
 |.inr r=>some r
def z0p(s:(List ByteArray))(f:(ByteArray→Option Bool)):Option (Bool):=
 (z1z s f).bind fun(t:Int)=>
 some (decide (t≥0))
def z74(request:(List ByteArray))(name:ByteArray)(than:ByteArray):Option (Bool):=
 (slices_Index_string request name).bind fun(t:Int)=>
 (bif decide (t < 0) then some true else
 (slices_Index_string request than).bind fun(t_1:Int)=>
 some (decide (t > t_1))).bind fun(c:Bool)=>
 some c
def z1a(below:ByteArray)(x:(List ByteArray))(x_1:ByteArray):Option (Bool):=
 (slices_Contains_string x below).bind fun(t:Bool)=>
 (bif t then
 (z74 x x_1 below).bind fun(t_1:Bool)=>
 some t_1
 else some false).bind fun(c:Bool)=>
 some c
def z1l(y:(List (List ByteArray)))(request:(List ByteArray)):Option ((List ByteArray)):=
 (z2l (S:=(List ByteArray)×Int) (R:=(List ByteArray)) (fun s=>
 let out:(List ByteArray):=s.1
 let t:Int:=s.2
 bif decide (t < (List.length y:Int)) then
 chk (decide ((0:Int)≤t)&&decide (t < (List.length y:Int))) (
 (z2l (S:=(List ByteArray)×Int) (R:=(List ByteArray)) (fun s_1=>
 let out_1:(List ByteArray):=s_1.1
 let t_1:Int:=s_1.2
 bif decide (t_1 < (List.length (lget [] y t):Int)) then
 chk (decide ((0:Int)≤t_1)&&decide (t_1 < (List.length (lget [] y t):Int))) (
 let name:ByteArray:=lget ByteArray.empty (lget [] y t) t_1
 chk (decide ((0:Int)≤0)&&decide ((0:Int)≤t_1)&&decide (t_1≤(List.length (lget [] y t):Int))) (
 (z0p (List.drop (Int.toNat 0) (List.take (Int.toNat t_1) (lget [] y t))) (fun x=>z1a x request name)).bind fun(t_2:Bool)=>
 (bif t_2 then
 (app out_1 [name]).bind fun(t_3:List ByteArray)=>
 some t_3
 else
 some out_1).bind fun(out_2:(List ByteArray))=>
 some (.inl (out_2,wi64 (t_1+1)))))
 else
 some (.inr out_1)) (out,0)).bind fun(out_3:(List ByteArray))=>
 some (.inl (out_3,wi64 (t+1))))
 else
 some (.inr out)) ([],0)).bind fun(out_4:(List ByteArray))=>
 some out_4
def z35(y:(List (List ByteArray)))(request:(List ByteArray)):Option ((List ByteArray)×Int):=
 (z1y y request).bind fun(r:(List (List ByteArray))×Int)=>
 bif (r.2 != 0) then
 some ([],r.2)
 else
 (z1l r.1 request).bind fun(t:(List ByteArray))=>
 some (t,0)
def zol(a:(List ByteArray))(b:(List ByteArray)):Option (Bool):=
 bif ((List.length a:Int) != (List.length b:Int)) then
 some false
 else
 (z2l (S:=Int) (R:=(Unit)⊕(Bool)) (fun i=>
 bif decide (i < (List.length a:Int)) then
 chk (decide ((0:Int)≤i)&&decide (i < (List.length a:Int))) (
 chk (decide ((0:Int)≤i)&&decide (i < (List.length b:Int))) (
 bif !seqb (lget ByteArray.empty a i) (lget ByteArray.empty b i) then
 Option.map Sum.inr (Option.map Sum.inr (
 some false))
 else
 some (.inl (wi64 (i+1)))))
 else
 some (.inr (.inl ()))) 0).bind fun j=>match j with
 |.inl _=>(
 some true)
 |.inr r=>some r
def strings_Split(s sep:ByteArray):Option (List ByteArray):=zy5 sep s
def strconv_Itoa(n:Int):Option ByteArray:=bif decide ((-9223372036854775808:Int)≤n)&&decide (n≤9223372036854775807) then some ⟨(Lib.itoa n).toArray⟩ else none
def strconv_Atoi(s:ByteArray):Option (Int×Bool):=yez s
def z6b(s:ByteArray):Option (Int×Bool):=
 (strconv_Atoi s).bind fun(r:Int×Bool)=>
 (bif (r.2&&(decide (r.1≥0))) then
 (strconv_Itoa r.1).bind fun(t:ByteArray)=>
 some (seqb t s)
 else some false).bind fun(c:Bool)=>
 let t_1:Bool:=(c&&(decide ((ByteArray.size s:Int)≤6)))
 some (r.1,t_1)
def z17(ws:List ByteArray)(i:Int):ByteArray:=if i < (ws.length:Int) then lget ByteArray.empty ws i else ByteArray.empty
def zdx(ws:List ByteArray)(i:Int):Option (Option Int):=(z6b (z17 ws i)).bind fun r=>some (bif r.2 then some r.1 else none)
def y2s(us:List (ByteArray×Int))(w:ByteArray):Option Int:=(us.find? fun p=>seqb w p.1).map (·.2)
def zbk(us:List (ByteArray×Int))(ws:List ByteArray)(i:Int):Option Int:=if i < (ws.length:Int) then y2s us (z17 ws i) else none
def z5m(us:List (ByteArray×Int))(ws:List ByteArray)(i:Int):Option (Int⊕Int):=
 (zdx ws i).bind fun n=>match n with
  |none=>some (.inl i)
  |some n=>match zbk us ws (i+1) with
   |none=>some (.inl (i+1))
   |some b=>some (.inr (wi64 (n*b)))
def zlj:List (ByteArray×Int):=[(bytes [117,109],1),(bytes [109,109],1000)]
def unMm:List (ByteArray×Int):=[(bytes [109,109],1)]
def unTo:List (ByteArray×Int):=[(bytes [116,111],10)]
def unC:List (ByteArray×Int):=[(bytes [67],10)]
def zwj(k:Nat)(ws:List ByteArray)(o:z00)(i:Int):Option (Int⊕(z00×Int)):=
 match k with
 |0=>(zdx ws i).bind fun n=>match n with
  |none=>some (.inl i)
  |some n=>some (.inr ((o.1,(n,o.2.2)),i+1))
 |1=>(z5m zlj ws i).bind fun v=>match v with
  |.inl j=>some (.inl j)
  |.inr v=>some (.inr ((o.1,(o.2.1,(v,o.2.2.2))),i+2))
 |2=>(z5m zlj ws i).bind fun v=>match v with
  |.inl j=>some (.inl j)
  |.inr v=>some (.inr ((o.1,(o.2.1,(o.2.2.1,(v,o.2.2.2.2)))),i+2))
 |3=>(z5m unMm ws i).bind fun v=>match v with
  |.inl j=>some (.inl j)
  |.inr v=>some (.inr ((o.1,(o.2.1,(o.2.2.1,(o.2.2.2.1,(v,o.2.2.2.2.2))))),i+2))
 | 4=>(z5m unTo ws i).bind fun v=>match v with
  |.inl j=>some (.inl j)
  |.inr v=>(z5m unC ws (i+2)).bind fun u=>match u with
   |.inl j=>some (.inl j)
   |.inr u=>some (.inr ((o.1,(o.2.1,(o.2.2.1,(o.2.2.2.1,(o.2.2.2.2.1,((v,u),o.2.2.2.2.2.2)))))),i+4))
 |_=>(zdx ws i).bind fun n=>match n with
  |none=>some (.inl i)
  |some n=>some (.inr ((o.1,(o.2.1,(o.2.2.1,(o.2.2.2.1,(o.2.2.2.2.1,(o.2.2.2.2.2.1,n)))))),i+1))
def zc3:List ByteArray:=[bytes [103,114,97,100,101],bytes [116,104,105,99,107,110,101,115,115],bytes [116,111,108,101,114,97,110,99,101],bytes [119,105,100,116,104],bytes [99,111,105,108,105,110,103],bytes [100,117,101]]
def z8j(w:ByteArray):Option Nat:=zc3.findIdx? fun c=>seqb c w
def zeh(ws:List ByteArray):Nat→z00→Int→(Nat→Bool)→Option ((Int×Int)⊕(z00×(Nat→Bool)))
 |0,_,_,_=>none
 | n+1,o,i,given=>if i < (ws.length:Int) then match z8j (z17 ws i) with
   |none=>some (.inl (i,7))
   |some k=>bif given k then some (.inl (i,23)) else(zwj k ws o (i+1)).bind fun r=>match r with
    |.inl j=>some (.inl (j,7))
    |.inr r=>zeh ws n r.1 r.2 (upd given k true)
  else some (.inr (o,given))
def z3d:z00:=(ByteArray.empty,(0,(0,(0,(0,((0,0),0))))))
def z48(s:ByteArray):Option (z00×Int×Int):=
 (strings_Split s (bytes [32])).bind fun ws=>(z1o (z17 ws 0)).bind fun is=>bif !is then some (z3d,0,7) else
  (zeh ws (ws.length+1) (z17 ws 0,(0,(0,(0,(0,((0,20000),0)))))) 1 (fun _=>false)).bind fun r=>match r with
   |.inl f=>some (z3d,f.1,f.2)
   |.inr r=>bif !(r.2 0&&r.2 1&&r.2 3) then some (z3d,0,14) else(z1k r.1).bind fun e=>bif e != 0 then some (z3d,0,e) else some (r.1,0,0)
def zsn:Option ((List (List ByteArray))):=
 let t:(List (List ByteArray)):=[[(bytes [97]),(bytes [98]),(bytes [99])],[(bytes [100])],[]]
 some t
def zkp:Option (z0f):=
 some (2,(100,(150,(1000,(2,(5000,(1,(0,10))))))))
def zkq:Option ((List z03)):=
 let t:(List z03):=[(1200,(3000,(5,1000))),(1100,(2500,(4,1000))),(1050,(3400,(6,2000)))]
 some t
def zhn:Option (Bool):=
 (z48 (bytes [97,45,49,32,119,105,100,116,104,32,49,50,48,48,32,109,109,32,116,104,105,99,107,110,101,115,115,32,51,32,109,109,32,103,114,97,100,101,32,53,32,116,111,108,101,114,97,110,99,101,32,53,48,32,117,109,32,100,117,101,32,49,50])).bind fun(r:z00×Int×Int)=>
 (z5e ((bytes [115]),(5,(200000,(1250,8000)))) r.1).bind fun(r_1:z0t×Int)=>
 (zsn).bind fun(t:(List (List ByteArray)))=>
 (z35 t [(bytes [97]),(bytes [99])]).bind fun(r_2:(List ByteArray)×Int)=>
 (zkp).bind fun(t_1:z0f)=>
 (zkq).bind fun(t_2:(List z03))=>
 (z6d t_1 t_2).bind fun(r_3:(List Int)×Int×Int)=>
 (zkp).bind fun(t_3:z0f)=>
 (zkq).bind fun(t_4:(List z03))=>
 (z6x t_3 t_4 [0,20,0]).bind fun(r_4:Int×Int)=>
 (bif ((r.2.2 == 0)&&(r_1.2 == 0)) then
 some (Ty.eqb z0d r_1.1 (546448,564972))
 else some false).bind fun(c:Bool)=>
 (bif (c&&(r_2.2 == 0)) then
 (zol r_2.1 [(bytes [98]),(bytes [99])]).bind fun(t_5:Bool)=>
 some t_5
 else some false).bind fun(c_1:Bool)=>
 (bif (c_1&&(r_3.2.2 == 0)) then
 (ztj r_3.1 [1,0,2]).bind fun(t_6:Bool)=>
 some t_6
 else some false).bind fun(c_2:Bool)=>
 let t_7:Bool:=(((c_2&&(r_3.2.1 == 270))&&(r_4.2 == 0))&&(r_4.1 == 160))
 some t_7
def zh2(s:ByteArray):Option (Bool):=
 bif ((decide ((ByteArray.size s:Int) < 1))||(decide ((ByteArray.size s:Int) > 12))) then
 some false
 else
 (z2l (S:=Int) (R:=(Unit)⊕(Bool)) (fun i=>
 bif decide (i < (ByteArray.size s:Int)) then
 chk (decide ((0:Int)≤i)&&decide (i < (ByteArray.size s:Int))) (
 let letter:Bool:=(((decide ((sget s i)≥97))&&(decide ((sget s i)≤122)))||((decide ((sget s i)≥65))&&(decide ((sget s i)≤90))))
 bif ((!letter)&&((i == 0)||(((sget s i) != 45)&&((decide ((sget s i) < 48))||(decide ((sget s i) > 57)))))) then
 Option.map Sum.inr (Option.map Sum.inr (
 some false))
 else
 some (.inl (wi64 (i+1))))
 else
 some (.inr (.inl ()))) 0).bind fun j=>match j with
 |.inl _=>(
 some true)
 |.inr r=>some r
end Go.Lift
end
