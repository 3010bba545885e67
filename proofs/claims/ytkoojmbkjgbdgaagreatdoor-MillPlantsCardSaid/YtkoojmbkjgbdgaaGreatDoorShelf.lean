/-
  The shelf's contracts at this program.
-/
import Derived.Shelf.Strings.Builder1
import Derived.Shelf.Strings.Builder2
import Derived.Shelf.Strings.OnBuilder
import Derived.Shelf.Small.Bits
import Derived.Shelf.Small.Strs
import Derived.Shelf.Strings.BuilderF
import Derived.Shelf.Strings.BuilderK
import Derived.Shelf.Utf8.RuneCount
import Derived.Shelf.Strings.Builder2Cap
import Derived.Shelf.Strconv.Atoi
import Derived.Shelf.Strconv.Itoa0
import Derived.Shelf.Strconv.Itoa1
import Derived.Shelf.LaysM
import Derived.Shelf.Strconv.Itoa2
import Derived.Shelf.Strconv.Itoa3
import Derived.Shelf.Strconv.AtoiErrFast
import Derived.Shelf.Strconv.ParseIntEmpty
import Derived.Shelf.Strconv.AtoiFail
import Derived.Shelf.Strconv.Clone
import Derived.Shelf.Strconv.SyntaxError
import Derived.Shelf.LaysC
import Derived.Shelf.Strconv.ToError
import Derived.Shelf.Strconv.Lower
import Derived.Shelf.Strconv.ParseUint10
import Derived.Shelf.Strconv.ParseUint10Empty
import Derived.Shelf.Strconv.ParseUint10Any
import Derived.Shelf.Strconv.ParseInt10
import Derived.Shelf.Strconv.AtoiLong
import Derived.Shelf.Strconv.AtoiInnerAll
import Derived.Shelf.Strconv.RangeError
import Derived.Shelf.Strconv.ToErrorRange
import Derived.Shelf.Strconv.AtoiAll
import Derived.Shelf.Strconv.ErrVarAll
import Derived.Shelf.Strconv.ParseUintEmpty
import Derived.Shelf.Strconv.ParseUint10b16
import Derived.Shelf.Strings.Search1
import Derived.Shelf.Strings.Search2
import Derived.Shelf.Strings.Search3
import Derived.Shelf.Strings.Cut
import Derived.Shelf.Strings.Count
import Derived.Shelf.Strings.Shaped
import Derived.Shelf.GgClosure.StringsIndexFunc
import Derived.Ground.GgwProg
import Derived.Shelf.GgClosure.StringsIndexFuncTop
import Derived.Shelf.GgClosure.StringsRunes
import Derived.Shelf.Strings.Prefix
import Derived.Shelf.Strings.Split
import Derived.Shelf.Strings.SplitShaped
import Derived.Shelf.Unicode.Decode
import Derived.Shelf.Strings.RuneCount
import Derived.Shelf.Strings.Explode
import Derived.Shelf.Bits.Mul64
import Derived.Shelf.Unicode.DecodeSlow
import Derived.Shelf.Unicode.DecodeAny
import Derived.Shelf.Strings.FuncGrows
import Derived.Shelf.Slices.Turned
import Derived.Ground.Names2Prog
import Derived.Shelf.Slices.Clone
import Derived.Ground.SlgnProg
import Derived.Shelf.SlicesE.Clone
import Derived.Test.YtkoojmbkjgbdgaaGreatDoorProg
set_option linter.unusedSectionVars false
set_option linter.unusedVariables false
set_option linter.unusedSimpArgs false
namespace Go.Proofs
open Go.Shelf
def Tryz.lays156_ren : Go.Shelf.Ren := ⟨fun | 156 => 144 | 165 => 208 | 166 => 68 | 169 => 70 | 240 => 112 | 241 => 262 | 276 => 176 | 277 => 312 | n => n, fun | 31 => 23 | 9 => 9 | 3 => 3 | 4 => 4 | 0 => 0 | 20 => 20 | 72 => 144 | 76 => 148 | 70 => 141 | 37 => 142 | 75 => 147 | 127 => 222 | 164 => 267 | 5 => 5 | 80 => 43 | n => n, fun | n => n⟩
theorem Tryz.lays156 : Go.Proofs.Lays.n156 Tryz.prog Tryz.lays156_ren := {
  mixed := by kernel_rfl
  f156 := Tryz.func144.trans (congrArg some (by kernel_rfl))
  f165 := Tryz.func208.trans (congrArg some (by kernel_rfl))
  f166 := Tryz.func68.trans (congrArg some (by kernel_rfl))
  f169 := Tryz.func70.trans (congrArg some (by kernel_rfl))
  f240 := Tryz.func112.trans (congrArg some (by kernel_rfl))
  f241 := Tryz.func262.trans (congrArg some (by kernel_rfl))
  f276 := Tryz.func176.trans (congrArg some (by kernel_rfl))
  f277 := Tryz.func312.trans (congrArg some (by kernel_rfl))
  t0 := Tryz.underlying0
  a0 := Tryz.isAgg0
  z0 := Tryz.sizeOf0
  v0 := Tryz.zeroValue0
  t3 := Tryz.underlying3
  a3 := Tryz.isAgg3
  z3 := Tryz.sizeOf3
  v3 := Tryz.zeroValue3
  t4 := Tryz.underlying4
  a4 := Tryz.isAgg4
  z4 := Tryz.sizeOf4
  v4 := Tryz.zeroValue4
  t9 := Tryz.underlying9
  a9 := Tryz.isAgg9
  z9 := Tryz.sizeOf9
  v9 := Tryz.zeroValue9
  t20 := Tryz.underlying20
  a20 := Tryz.isAgg20
  z20 := Tryz.sizeOf20
  v20 := Tryz.zeroValue20
  t31 := Tryz.underlying23
  a31 := Tryz.isAgg23
  z31 := Tryz.sizeOf23
  v31 := Tryz.zeroValue23
  t37 := Tryz.underlying142
  a37 := Tryz.isAgg142
  z37 := Tryz.sizeOf142
  v37 := Tryz.zeroValue142
  t70 := Tryz.underlying141
  a70 := Tryz.isAgg141
  z70 := Tryz.sizeOf141
  v70 := Tryz.zeroValue141
  t72 := Tryz.underlying144
  a72 := Tryz.isAgg144
  z72 := Tryz.sizeOf144
  v72 := Tryz.zeroValue144
  t75 := Tryz.underlying147
  a75 := Tryz.isAgg147
  z75 := Tryz.sizeOf147
  v75 := Tryz.zeroValue147
  t76 := Tryz.underlying148
  a76 := Tryz.isAgg148
  z76 := Tryz.sizeOf148
  v76 := Tryz.zeroValue148
  t127 := Tryz.underlying222
  a127 := Tryz.isAgg222
  z127 := Tryz.sizeOf222
  v127 := Tryz.zeroValue222
  t164 := Tryz.underlying267
  a164 := Tryz.isAgg267
  z164 := Tryz.sizeOf267
  v164 := Tryz.zeroValue267 }
theorem Tryz.Builder_Extra_156 : Builder.Extra Tryz.prog Tryz.lays156_ren := {
  sizeBuilder := by kernel_rfl
  liesBuilder := by kernel_rfl
  t5 := Tryz.underlying5
  a5 := Tryz.isAgg5
  z5 := Tryz.sizeOf5
  v5 := Tryz.zeroValue5
  infoByte := by kernel_rfl
  cellsByte := by kernel_rfl
  sizeByte := by kernel_rfl
  neB5 := by decide }
open Go.RowKit in
theorem Tryz.strings_Join_none (a : Option Addr) (c : Nat) (sep : ByteArray) (w : World) :
    Calls Tryz.prog 144 #[.slice a 0 c, .string sep] w fun e w' => e = .returned (.string ⟨#[]⟩) ∧ w' = w := Any.strings_Join_none Tryz.lays156 Tryz.Builder_Extra_156 a c sep w
open Go.RowKit in
theorem Tryz.strings_Join (bk o c : Nat) (xs : List ByteArray) (sep : ByteArray) (w : World) (hcells : ∀ (j : Nat) x, xs[j]? = some x → w.cell? ⟨bk, o + j, none⟩ = some (.string x)) (hbk : bk < w.heap.size) (hN : xs.length ≤ 140737488355328) (hcap : xs.length ≤ c) (hlen : (Lib.join (xs.map (·.data.toList)) sep.data.toList).length ≤ 140737488355328) :
    Calls Tryz.prog 144 #[.slice (some ⟨bk, o, none⟩) xs.length c, .string sep] w fun e w' => e = .returned (.string ⟨(Lib.join (xs.map (·.data.toList)) sep.data.toList).toArray⟩) ∧ Below w.heap.size w w' := Any.strings_Join Tryz.lays156 Tryz.Builder_Extra_156 bk o c xs sep w hcells hbk hN hcap hlen
def Tryz.lays172_ren : Go.Shelf.Ren := ⟨fun | 172 => 75 | 244 => 118 | 245 => 119 | 247 => 183 | 279 => 184 | 280 => 185 | 281 => 186 | 282 => 187 | 287 => 231 | 316 => 232 | 171 => 69 | 205 => 233 | 321 => 285 | 322 => 286 | 243 => 113 | 246 => 177 | 283 => 224 | 284 => 225 | 285 => 226 | 286 => 227 | 129 => 280 | 317 => 279 | 318 => 281 | 319 => 282 | 320 => 283 | 337 => 325 | 338 => 326 | n => n, fun | 9 => 9 | 3 => 3 | 75 => 147 | 76 => 148 | 4 => 4 | 5 => 5 | 167 => 278 | 37 => 142 | 0 => 0 | 85 => 279 | 2 => 2 | 168 => 281 | 53 => 273 | 175 => 333 | 46 => 223 | 210 => 336 | 127 => 222 | 145 => 400 | 143 => 398 | 21 => 21 | 171 => 326 | 173 => 329 | 212 => 394 | 51 => 270 | 20 => 20 | 213 => 395 | 232 => 447 | 233 => 448 | 80 => 43 | n => n, fun | 15 => 6 | 16 => 7 | 17 => 8 | 18 => 11 | 19 => 12 | n => n⟩
theorem Tryz.lays172 : Go.Proofs.Lays.n172 Tryz.prog Tryz.lays172_ren := {
  mixed := by kernel_rfl
  f129 := Tryz.func280.trans (congrArg some (by kernel_rfl))
  f171 := Tryz.func69.trans (congrArg some (by kernel_rfl))
  f172 := Tryz.func75.trans (congrArg some (by kernel_rfl))
  f205 := Tryz.func233.trans (congrArg some (by kernel_rfl))
  f243 := Tryz.func113.trans (congrArg some (by kernel_rfl))
  f244 := Tryz.func118.trans (congrArg some (by kernel_rfl))
  f245 := Tryz.func119.trans (congrArg some (by kernel_rfl))
  f246 := Tryz.func177.trans (congrArg some (by kernel_rfl))
  f247 := Tryz.func183.trans (congrArg some (by kernel_rfl))
  f279 := Tryz.func184.trans (congrArg some (by kernel_rfl))
  f280 := Tryz.func185.trans (congrArg some (by kernel_rfl))
  f281 := Tryz.func186.trans (congrArg some (by kernel_rfl))
  f282 := Tryz.func187.trans (congrArg some (by kernel_rfl))
  f283 := Tryz.func224.trans (congrArg some (by kernel_rfl))
  f284 := Tryz.func225.trans (congrArg some (by kernel_rfl))
  f285 := Tryz.func226.trans (congrArg some (by kernel_rfl))
  f286 := Tryz.func227.trans (congrArg some (by kernel_rfl))
  f287 := Tryz.func231.trans (congrArg some (by kernel_rfl))
  f316 := Tryz.func232.trans (congrArg some (by kernel_rfl))
  f317 := Tryz.func279.trans (congrArg some (by kernel_rfl))
  f318 := Tryz.func281.trans (congrArg some (by kernel_rfl))
  f319 := Tryz.func282.trans (congrArg some (by kernel_rfl))
  f320 := Tryz.func283.trans (congrArg some (by kernel_rfl))
  f321 := Tryz.func285.trans (congrArg some (by kernel_rfl))
  f322 := Tryz.func286.trans (congrArg some (by kernel_rfl))
  f337 := Tryz.func325.trans (congrArg some (by kernel_rfl))
  f338 := Tryz.func326.trans (congrArg some (by kernel_rfl))
  t0 := Tryz.underlying0
  a0 := Tryz.isAgg0
  z0 := Tryz.sizeOf0
  v0 := Tryz.zeroValue0
  t2 := Tryz.underlying2
  a2 := Tryz.isAgg2
  z2 := Tryz.sizeOf2
  v2 := Tryz.zeroValue2
  t3 := Tryz.underlying3
  a3 := Tryz.isAgg3
  z3 := Tryz.sizeOf3
  v3 := Tryz.zeroValue3
  t4 := Tryz.underlying4
  a4 := Tryz.isAgg4
  z4 := Tryz.sizeOf4
  v4 := Tryz.zeroValue4
  t5 := Tryz.underlying5
  a5 := Tryz.isAgg5
  z5 := Tryz.sizeOf5
  v5 := Tryz.zeroValue5
  t9 := Tryz.underlying9
  a9 := Tryz.isAgg9
  z9 := Tryz.sizeOf9
  v9 := Tryz.zeroValue9
  t20 := Tryz.underlying20
  a20 := Tryz.isAgg20
  z20 := Tryz.sizeOf20
  v20 := Tryz.zeroValue20
  t21 := Tryz.underlying21
  a21 := Tryz.isAgg21
  z21 := Tryz.sizeOf21
  v21 := Tryz.zeroValue21
  t37 := Tryz.underlying142
  a37 := Tryz.isAgg142
  z37 := Tryz.sizeOf142
  v37 := Tryz.zeroValue142
  t46 := Tryz.underlying223
  a46 := Tryz.isAgg223
  z46 := Tryz.sizeOf223
  v46 := Tryz.zeroValue223
  t51 := Tryz.underlying270
  a51 := Tryz.isAgg270
  z51 := Tryz.sizeOf270
  v51 := Tryz.zeroValue270
  t53 := Tryz.underlying273
  a53 := Tryz.isAgg273
  z53 := Tryz.sizeOf273
  v53 := Tryz.zeroValue273
  t75 := Tryz.underlying147
  a75 := Tryz.isAgg147
  z75 := Tryz.sizeOf147
  v75 := Tryz.zeroValue147
  t76 := Tryz.underlying148
  a76 := Tryz.isAgg148
  z76 := Tryz.sizeOf148
  v76 := Tryz.zeroValue148
  t85 := Tryz.underlying279
  a85 := Tryz.isAgg279
  z85 := Tryz.sizeOf279
  v85 := Tryz.zeroValue279
  t127 := Tryz.underlying222
  a127 := Tryz.isAgg222
  z127 := Tryz.sizeOf222
  v127 := Tryz.zeroValue222
  t143 := Tryz.underlying398
  a143 := Tryz.isAgg398
  z143 := Tryz.sizeOf398
  v143 := Tryz.zeroValue398
  t145 := Tryz.underlying400
  a145 := Tryz.isAgg400
  z145 := Tryz.sizeOf400
  v145 := Tryz.zeroValue400
  t167 := Tryz.underlying278
  a167 := Tryz.isAgg278
  z167 := Tryz.sizeOf278
  v167 := Tryz.zeroValue278
  t168 := Tryz.underlying281
  a168 := Tryz.isAgg281
  z168 := Tryz.sizeOf281
  v168 := Tryz.zeroValue281
  t171 := Tryz.underlying326
  a171 := Tryz.isAgg326
  z171 := Tryz.sizeOf326
  v171 := Tryz.zeroValue326
  t173 := Tryz.underlying329
  a173 := Tryz.isAgg329
  z173 := Tryz.sizeOf329
  v173 := Tryz.zeroValue329
  t175 := Tryz.underlying333
  a175 := Tryz.isAgg333
  z175 := Tryz.sizeOf333
  v175 := Tryz.zeroValue333
  t210 := Tryz.underlying336
  a210 := Tryz.isAgg336
  z210 := Tryz.sizeOf336
  v210 := Tryz.zeroValue336
  t212 := Tryz.underlying394
  a212 := Tryz.isAgg394
  z212 := Tryz.sizeOf394
  v212 := Tryz.zeroValue394
  t213 := Tryz.underlying395
  a213 := Tryz.isAgg395
  z213 := Tryz.sizeOf395
  t232 := Tryz.underlying447
  a232 := Tryz.isAgg447
  z232 := Tryz.sizeOf447
  v232 := Tryz.zeroValue447
  t233 := Tryz.underlying448
  a233 := Tryz.isAgg448
  z233 := Tryz.sizeOf448
  v233 := Tryz.zeroValue448
  g15 := by kernel_rfl
  g16 := by kernel_rfl
  g17 := by kernel_rfl
  g18 := by kernel_rfl
  g19 := by kernel_rfl }
open Go.RowKit in
theorem Tryz.strconv_Atoi (s : ByteArray) (n : Int) (hl : s.size ≤ 18) (h : Lib.atoi s.data.toList = some n) (w : World) :
    Calls Tryz.prog 75 #[.string s] w fun e w' => e = .returned (.tuple #[.int .i64 n, .nilIface]) ∧ ∃ t, w' = Lib.bytesWorld w 5 t := Any.strconv_Atoi Tryz.lays172 s n hl h w
def Tryz.laysM171_ren : Go.Shelf.Ren := ⟨fun | 171 => 69 | 243 => 113 | 246 => 177 | 283 => 224 | 284 => 225 | 285 => 226 | 286 => 227 | 129 => 280 | 317 => 279 | 318 => 281 | 319 => 282 | 320 => 283 | 337 => 325 | 338 => 326 | n => n, fun | 3 => 3 | 9 => 9 | 2 => 2 | 4 => 4 | 171 => 326 | 0 => 0 | 53 => 273 | 37 => 142 | 5 => 5 | 173 => 329 | 212 => 394 | 51 => 270 | 20 => 20 | 213 => 395 | 46 => 223 | 232 => 447 | 233 => 448 | n => n, fun | 17 => 8 | 18 => 11 | 19 => 12 | n => n⟩
theorem Tryz.laysM171 : Go.Proofs.LaysM.n171 Tryz.prog Tryz.laysM171_ren := {
  mixed := by kernel_rfl
  f129 := Tryz.func280.trans (congrArg some (by kernel_rfl))
  f171 := Tryz.func69.trans (congrArg some (by kernel_rfl))
  f243 := Tryz.func113.trans (congrArg some (by kernel_rfl))
  f246 := Tryz.func177.trans (congrArg some (by kernel_rfl))
  f283 := Tryz.func224.trans (congrArg some (by kernel_rfl))
  f284 := Tryz.func225.trans (congrArg some (by kernel_rfl))
  f285 := Tryz.func226.trans (congrArg some (by kernel_rfl))
  f286 := Tryz.func227.trans (congrArg some (by kernel_rfl))
  f317 := Tryz.func279.trans (congrArg some (by kernel_rfl))
  f318 := Tryz.func281.trans (congrArg some (by kernel_rfl))
  f319 := Tryz.func282.trans (congrArg some (by kernel_rfl))
  f320 := Tryz.func283.trans (congrArg some (by kernel_rfl))
  f337 := Tryz.func325.trans (congrArg some (by kernel_rfl))
  f338 := Tryz.func326.trans (congrArg some (by kernel_rfl))
  t0 := Tryz.underlying0
  a0 := Tryz.isAgg0
  z0 := Tryz.sizeOf0
  v0 := Tryz.zeroValue0
  t2 := Tryz.underlying2
  a2 := Tryz.isAgg2
  z2 := Tryz.sizeOf2
  v2 := Tryz.zeroValue2
  t3 := Tryz.underlying3
  a3 := Tryz.isAgg3
  z3 := Tryz.sizeOf3
  v3 := Tryz.zeroValue3
  t4 := Tryz.underlying4
  a4 := Tryz.isAgg4
  z4 := Tryz.sizeOf4
  v4 := Tryz.zeroValue4
  t5 := Tryz.underlying5
  a5 := Tryz.isAgg5
  z5 := Tryz.sizeOf5
  v5 := Tryz.zeroValue5
  t9 := Tryz.underlying9
  a9 := Tryz.isAgg9
  z9 := Tryz.sizeOf9
  v9 := Tryz.zeroValue9
  t20 := Tryz.underlying20
  a20 := Tryz.isAgg20
  z20 := Tryz.sizeOf20
  v20 := Tryz.zeroValue20
  t37 := Tryz.underlying142
  a37 := Tryz.isAgg142
  z37 := Tryz.sizeOf142
  v37 := Tryz.zeroValue142
  t46 := Tryz.underlying223
  a46 := Tryz.isAgg223
  z46 := Tryz.sizeOf223
  v46 := Tryz.zeroValue223
  t51 := Tryz.underlying270
  a51 := Tryz.isAgg270
  z51 := Tryz.sizeOf270
  v51 := Tryz.zeroValue270
  t53 := Tryz.underlying273
  a53 := Tryz.isAgg273
  z53 := Tryz.sizeOf273
  v53 := Tryz.zeroValue273
  t171 := Tryz.underlying326
  a171 := Tryz.isAgg326
  z171 := Tryz.sizeOf326
  v171 := Tryz.zeroValue326
  t173 := Tryz.underlying329
  a173 := Tryz.isAgg329
  z173 := Tryz.sizeOf329
  v173 := Tryz.zeroValue329
  t212 := Tryz.underlying394
  a212 := Tryz.isAgg394
  z212 := Tryz.sizeOf394
  v212 := Tryz.zeroValue394
  t213 := Tryz.underlying395
  a213 := Tryz.isAgg395
  z213 := Tryz.sizeOf395
  t232 := Tryz.underlying447
  a232 := Tryz.isAgg447
  z232 := Tryz.sizeOf447
  v232 := Tryz.zeroValue447
  t233 := Tryz.underlying448
  a233 := Tryz.isAgg448
  z233 := Tryz.sizeOf448
  v233 := Tryz.zeroValue448
  g17 := by kernel_rfl
  g18 := by kernel_rfl
  g19 := by kernel_rfl
  i0 := by kernel_rfl
  i2 := by kernel_rfl
  i3 := by kernel_rfl
  i4 := by kernel_rfl
  i5 := by kernel_rfl
  i9 := by kernel_rfl
  i20 := by kernel_rfl
  i37 := by kernel_rfl
  i46 := by kernel_rfl
  i51 := by kernel_rfl
  i53 := by kernel_rfl
  i171 := by kernel_rfl
  i173 := by kernel_rfl
  i212 := by kernel_rfl
  i232 := by kernel_rfl
  i233 := by kernel_rfl
  m17 := by kernel_rfl
  m18 := by kernel_rfl
  m19 := by kernel_rfl }
open Go.RowKit Go.Sort Go.Lib in
theorem Tryz.strconv_Itoa (n : Int) (h0 : -9223372036854775808 ≤ n) (h1 : n ≤ 9223372036854775807) (w : World) (htab : Lib.TabIs Tryz.prog w "internal/strconv.uint64pow10" .u64 Lib.pow10Tab) :
    Calls Tryz.prog 69 #[.int .i64 n] w fun e w' => e = .returned (.string ⟨(Lib.itoa n).toArray⟩) ∧ ∃ k os, w' = grow (w.drewN k) os := Any.strconv_Itoa Tryz.laysM171 n h0 h1 w htab
def Tryz.laysC172_ren : Go.Shelf.Ren := ⟨fun | 172 => 75 | 244 => 118 | 245 => 119 | 247 => 183 | 279 => 184 | 280 => 185 | 281 => 186 | 282 => 187 | 287 => 231 | 316 => 232 | 171 => 69 | 205 => 233 | 321 => 285 | 322 => 286 | 243 => 113 | 246 => 177 | 283 => 224 | 284 => 225 | 285 => 226 | 286 => 227 | 129 => 280 | 317 => 279 | 318 => 281 | 319 => 282 | 320 => 283 | 337 => 325 | 338 => 326 | n => n, fun | 9 => 9 | 3 => 3 | 75 => 147 | 76 => 148 | 4 => 4 | 5 => 5 | 167 => 278 | 37 => 142 | 0 => 0 | 85 => 279 | 2 => 2 | 168 => 281 | 53 => 273 | 175 => 333 | 46 => 223 | 210 => 336 | 127 => 222 | 145 => 400 | 143 => 398 | 21 => 21 | 171 => 326 | 173 => 329 | 212 => 394 | 51 => 270 | 20 => 20 | 213 => 395 | 232 => 447 | 233 => 448 | 80 => 43 | n => n, fun | 15 => 6 | 16 => 7 | 17 => 8 | 18 => 11 | 19 => 12 | n => n⟩
theorem Tryz.laysC172 : Go.Proofs.LaysC.n172 Tryz.prog Tryz.laysC172_ren := {
  mixed := by kernel_rfl
  f129 := Tryz.func280.trans (congrArg some (by kernel_rfl))
  f171 := Tryz.func69.trans (congrArg some (by kernel_rfl))
  f172 := Tryz.func75.trans (congrArg some (by kernel_rfl))
  f205 := Tryz.func233.trans (congrArg some (by kernel_rfl))
  f243 := Tryz.func113.trans (congrArg some (by kernel_rfl))
  f244 := Tryz.func118.trans (congrArg some (by kernel_rfl))
  f245 := Tryz.func119.trans (congrArg some (by kernel_rfl))
  f246 := Tryz.func177.trans (congrArg some (by kernel_rfl))
  f247 := Tryz.func183.trans (congrArg some (by kernel_rfl))
  f279 := Tryz.func184.trans (congrArg some (by kernel_rfl))
  f280 := Tryz.func185.trans (congrArg some (by kernel_rfl))
  f281 := Tryz.func186.trans (congrArg some (by kernel_rfl))
  f282 := Tryz.func187.trans (congrArg some (by kernel_rfl))
  f283 := Tryz.func224.trans (congrArg some (by kernel_rfl))
  f284 := Tryz.func225.trans (congrArg some (by kernel_rfl))
  f285 := Tryz.func226.trans (congrArg some (by kernel_rfl))
  f286 := Tryz.func227.trans (congrArg some (by kernel_rfl))
  f287 := Tryz.func231.trans (congrArg some (by kernel_rfl))
  f316 := Tryz.func232.trans (congrArg some (by kernel_rfl))
  f317 := Tryz.func279.trans (congrArg some (by kernel_rfl))
  f318 := Tryz.func281.trans (congrArg some (by kernel_rfl))
  f319 := Tryz.func282.trans (congrArg some (by kernel_rfl))
  f320 := Tryz.func283.trans (congrArg some (by kernel_rfl))
  f321 := Tryz.func285.trans (congrArg some (by kernel_rfl))
  f322 := Tryz.func286.trans (congrArg some (by kernel_rfl))
  f337 := Tryz.func325.trans (congrArg some (by kernel_rfl))
  f338 := Tryz.func326.trans (congrArg some (by kernel_rfl))
  t0 := Tryz.underlying0
  a0 := Tryz.isAgg0
  z0 := Tryz.sizeOf0
  v0 := Tryz.zeroValue0
  t2 := Tryz.underlying2
  a2 := Tryz.isAgg2
  z2 := Tryz.sizeOf2
  v2 := Tryz.zeroValue2
  t3 := Tryz.underlying3
  a3 := Tryz.isAgg3
  z3 := Tryz.sizeOf3
  v3 := Tryz.zeroValue3
  t4 := Tryz.underlying4
  a4 := Tryz.isAgg4
  z4 := Tryz.sizeOf4
  v4 := Tryz.zeroValue4
  t5 := Tryz.underlying5
  a5 := Tryz.isAgg5
  z5 := Tryz.sizeOf5
  v5 := Tryz.zeroValue5
  t9 := Tryz.underlying9
  a9 := Tryz.isAgg9
  z9 := Tryz.sizeOf9
  v9 := Tryz.zeroValue9
  t20 := Tryz.underlying20
  a20 := Tryz.isAgg20
  z20 := Tryz.sizeOf20
  v20 := Tryz.zeroValue20
  t21 := Tryz.underlying21
  a21 := Tryz.isAgg21
  z21 := Tryz.sizeOf21
  v21 := Tryz.zeroValue21
  t37 := Tryz.underlying142
  a37 := Tryz.isAgg142
  z37 := Tryz.sizeOf142
  v37 := Tryz.zeroValue142
  t46 := Tryz.underlying223
  a46 := Tryz.isAgg223
  z46 := Tryz.sizeOf223
  v46 := Tryz.zeroValue223
  t51 := Tryz.underlying270
  a51 := Tryz.isAgg270
  z51 := Tryz.sizeOf270
  v51 := Tryz.zeroValue270
  t53 := Tryz.underlying273
  a53 := Tryz.isAgg273
  z53 := Tryz.sizeOf273
  v53 := Tryz.zeroValue273
  t75 := Tryz.underlying147
  a75 := Tryz.isAgg147
  z75 := Tryz.sizeOf147
  v75 := Tryz.zeroValue147
  t76 := Tryz.underlying148
  a76 := Tryz.isAgg148
  z76 := Tryz.sizeOf148
  v76 := Tryz.zeroValue148
  t85 := Tryz.underlying279
  a85 := Tryz.isAgg279
  z85 := Tryz.sizeOf279
  v85 := Tryz.zeroValue279
  t127 := Tryz.underlying222
  a127 := Tryz.isAgg222
  z127 := Tryz.sizeOf222
  v127 := Tryz.zeroValue222
  t143 := Tryz.underlying398
  a143 := Tryz.isAgg398
  z143 := Tryz.sizeOf398
  v143 := Tryz.zeroValue398
  t145 := Tryz.underlying400
  a145 := Tryz.isAgg400
  z145 := Tryz.sizeOf400
  v145 := Tryz.zeroValue400
  t167 := Tryz.underlying278
  a167 := Tryz.isAgg278
  z167 := Tryz.sizeOf278
  v167 := Tryz.zeroValue278
  t168 := Tryz.underlying281
  a168 := Tryz.isAgg281
  z168 := Tryz.sizeOf281
  v168 := Tryz.zeroValue281
  t171 := Tryz.underlying326
  a171 := Tryz.isAgg326
  z171 := Tryz.sizeOf326
  v171 := Tryz.zeroValue326
  t173 := Tryz.underlying329
  a173 := Tryz.isAgg329
  z173 := Tryz.sizeOf329
  v173 := Tryz.zeroValue329
  t175 := Tryz.underlying333
  a175 := Tryz.isAgg333
  z175 := Tryz.sizeOf333
  v175 := Tryz.zeroValue333
  t210 := Tryz.underlying336
  a210 := Tryz.isAgg336
  z210 := Tryz.sizeOf336
  v210 := Tryz.zeroValue336
  t212 := Tryz.underlying394
  a212 := Tryz.isAgg394
  z212 := Tryz.sizeOf394
  v212 := Tryz.zeroValue394
  t213 := Tryz.underlying395
  a213 := Tryz.isAgg395
  z213 := Tryz.sizeOf395
  t232 := Tryz.underlying447
  a232 := Tryz.isAgg447
  z232 := Tryz.sizeOf447
  v232 := Tryz.zeroValue447
  t233 := Tryz.underlying448
  a233 := Tryz.isAgg448
  z233 := Tryz.sizeOf448
  v233 := Tryz.zeroValue448
  g15 := by kernel_rfl
  g16 := by kernel_rfl
  g17 := by kernel_rfl
  g18 := by kernel_rfl
  g19 := by kernel_rfl
  t80 := Tryz.underlying43
  a80 := Tryz.isAgg43
  z80 := Tryz.sizeOf43
  v80 := Tryz.zeroValue43
  i0 := by kernel_rfl
  i2 := by kernel_rfl
  i3 := by kernel_rfl
  i4 := by kernel_rfl
  i5 := by kernel_rfl
  i9 := by kernel_rfl
  i20 := by kernel_rfl
  i21 := by kernel_rfl
  i37 := by kernel_rfl
  i46 := by kernel_rfl
  i51 := by kernel_rfl
  i53 := by kernel_rfl
  i75 := by kernel_rfl
  i76 := by kernel_rfl
  i80 := by kernel_rfl
  i85 := by kernel_rfl
  i127 := by kernel_rfl
  i143 := by kernel_rfl
  i145 := by kernel_rfl
  i167 := by kernel_rfl
  i168 := by kernel_rfl
  i171 := by kernel_rfl
  i173 := by kernel_rfl
  i175 := by kernel_rfl
  i210 := by kernel_rfl
  i212 := by kernel_rfl
  i232 := by kernel_rfl
  i233 := by kernel_rfl
  m15 := by kernel_rfl
  m16 := by kernel_rfl
  m17 := by kernel_rfl
  m18 := by kernel_rfl
  m19 := by kernel_rfl
  c0 := by kernel_rfl
  c2 := by kernel_rfl
  c3 := by kernel_rfl
  c4 := by kernel_rfl
  c5 := by kernel_rfl
  c9 := by kernel_rfl
  c20 := by kernel_rfl
  c21 := by kernel_rfl
  c37 := by kernel_rfl
  c46 := by kernel_rfl
  c51 := by kernel_rfl
  c53 := by kernel_rfl
  c75 := by kernel_rfl
  c76 := by kernel_rfl
  c80 := by kernel_rfl
  c85 := by kernel_rfl
  c127 := by kernel_rfl
  c143 := by kernel_rfl
  c145 := by kernel_rfl
  c167 := by kernel_rfl
  c168 := by kernel_rfl
  c171 := by kernel_rfl
  c173 := by kernel_rfl
  c175 := by kernel_rfl
  c210 := by kernel_rfl
  c212 := by kernel_rfl
  c213 := by kernel_rfl
  c232 := by kernel_rfl
  c233 := by kernel_rfl }
open Go.RowKit in
theorem Tryz.strconv_Atoi_ok (s : ByteArray) (hmax : s.size ≤ 9223372036854775806) (v : Int) (h : Lib.atoiAll s.data.toList = .ok v) (w : World) :
    Calls Tryz.prog 75 #[.string s] w fun e w' => e = .returned (.tuple #[.int .i64 v, .nilIface]) ∧ (w' = w ∨ ∃ t, w' = Lib.bytesWorld w 5 t) := Any.strconv_Atoi_ok Tryz.laysC172 s hmax v h w
open Go.RowKit in
open Go.RowKit in
theorem Tryz.strconv_Atoi_range (s : ByteArray) (hlim : s.size ≤ 281474976710656) (h : Lib.atoiAll s.data.toList = .range) (ev : Value) (w : World) (hv : w.cell? ⟨7, 0, none⟩ = some ev) (hev : ev = .nilIface ∨ ∃ te pe, ev = .iface te pe) :
    Calls Tryz.prog 75 #[.string s] w fun e w' => ∃ N, e = .returned (.tuple #[.int .i64 (Lib.atoiSat s.data.toList), .iface 281 (.pointer (some ⟨N, 0, none⟩))]) ∧ w.heap.size ≤ N ∧ w'.heap[N]? = some (.cells #[.string ⟨#[65, 116, 111, 105]⟩, .string s, ev] 336 (0, 0)) ∧ Below w.heap.size w w' := Any.strconv_Atoi_range Tryz.laysC172 s hlim h ev w hv hev
def Tryz.lays145_ren : Go.Shelf.Ren := ⟨fun | 145 => 80 | 220 => 121 | 219 => 189 | 217 => 72 | 225 => 234 | 224 => 235 | 267 => 236 | 266 => 115 | 314 => 287 | n => n, fun | 9 => 9 | 4 => 4 | 59 => 159 | 3 => 3 | 5 => 5 | 46 => 223 | 146 => 271 | 51 => 270 | n => n, fun | 1 => 4 | n => n⟩
theorem Tryz.lays145 : Go.Proofs.Lays.n145 Tryz.prog Tryz.lays145_ren := {
  mixed := by kernel_rfl
  f145 := Tryz.func80.trans (congrArg some (by kernel_rfl))
  f217 := Tryz.func72.trans (congrArg some (by kernel_rfl))
  f219 := Tryz.func189.trans (congrArg some (by kernel_rfl))
  f220 := Tryz.func121.trans (congrArg some (by kernel_rfl))
  f224 := Tryz.func235.trans (congrArg some (by kernel_rfl))
  f225 := Tryz.func234.trans (congrArg some (by kernel_rfl))
  f266 := Tryz.func115.trans (congrArg some (by kernel_rfl))
  f267 := Tryz.func236.trans (congrArg some (by kernel_rfl))
  f314 := Tryz.func287.trans (congrArg some (by kernel_rfl))
  t3 := Tryz.underlying3
  a3 := Tryz.isAgg3
  z3 := Tryz.sizeOf3
  v3 := Tryz.zeroValue3
  t4 := Tryz.underlying4
  a4 := Tryz.isAgg4
  z4 := Tryz.sizeOf4
  v4 := Tryz.zeroValue4
  t5 := Tryz.underlying5
  a5 := Tryz.isAgg5
  z5 := Tryz.sizeOf5
  v5 := Tryz.zeroValue5
  t9 := Tryz.underlying9
  a9 := Tryz.isAgg9
  z9 := Tryz.sizeOf9
  v9 := Tryz.zeroValue9
  t46 := Tryz.underlying223
  a46 := Tryz.isAgg223
  z46 := Tryz.sizeOf223
  v46 := Tryz.zeroValue223
  t51 := Tryz.underlying270
  a51 := Tryz.isAgg270
  z51 := Tryz.sizeOf270
  v51 := Tryz.zeroValue270
  t59 := Tryz.underlying159
  a59 := Tryz.isAgg159
  z59 := Tryz.sizeOf159
  v59 := Tryz.zeroValue159
  t146 := Tryz.underlying271
  a146 := Tryz.isAgg271
  z146 := Tryz.sizeOf271
  v146 := Tryz.zeroValue271
  g1 := by kernel_rfl }
open Go.RowKit Go.Lib in
theorem Tryz.strings_Cut (s sep : ByteArray) (m : Int) (w : World) (hs : s.size < 4294967281) (hm : w.cell? ⟨4, 0, none⟩ = some (.int .i64 m)) :
    Calls Tryz.prog 80 #[.string s, .string sep] w fun e w' => e = .returned (.tuple #[.string ⟨(Lib.cut s.data.toList sep.data.toList).1.toArray⟩, .string ⟨(Lib.cut s.data.toList sep.data.toList).2.1.toArray⟩, .bool (Lib.cut s.data.toList sep.data.toList).2.2]) ∧ ∃ n, w' = w.drewN n := Any.strings_Cut Tryz.lays145 s sep m w hs hm
def Tryz.laysGw17_ren : Go.Shelf.Ren := ⟨fun | 17 => 78 | 15 => 120 | 20 => 188 | n => n, fun | 9 => 9 | 23 => 158 | 4 => 4 | 3 => 3 | 0 => 0 | 21 => 21 | n => n, fun | n => n⟩
theorem Tryz.laysGw17 : Go.Proofs.LaysGw.n17 Tryz.prog Tryz.laysGw17_ren := {
  mixed := by kernel_rfl
  f15 := Tryz.func120.trans (congrArg some (by kernel_rfl))
  f17 := Tryz.func78.trans (congrArg some (by kernel_rfl))
  f20 := Tryz.func188.trans (congrArg some (by kernel_rfl))
  t0 := Tryz.underlying0
  a0 := Tryz.isAgg0
  z0 := Tryz.sizeOf0
  v0 := Tryz.zeroValue0
  i0 := by kernel_rfl
  t3 := Tryz.underlying3
  a3 := Tryz.isAgg3
  z3 := Tryz.sizeOf3
  v3 := Tryz.zeroValue3
  i3 := by kernel_rfl
  t4 := Tryz.underlying4
  a4 := Tryz.isAgg4
  z4 := Tryz.sizeOf4
  v4 := Tryz.zeroValue4
  i4 := by kernel_rfl
  t9 := Tryz.underlying9
  a9 := Tryz.isAgg9
  z9 := Tryz.sizeOf9
  v9 := Tryz.zeroValue9
  i9 := by kernel_rfl
  t21 := Tryz.underlying21
  a21 := Tryz.isAgg21
  z21 := Tryz.sizeOf21
  v21 := Tryz.zeroValue21
  i21 := by kernel_rfl
  t23 := Tryz.underlying158
  a23 := Tryz.isAgg158
  z23 := Tryz.sizeOf158
  v23 := Tryz.zeroValue158
  i23 := by kernel_rfl }
def Tryz.lays99_ren : Go.Shelf.Ren := ⟨fun | 99 => 143 | 206 => 207 | n => n, fun | 9 => 9 | 4 => 4 | 3 => 3 | n => n, fun | n => n⟩
theorem Tryz.lays99 : Go.Proofs.Lays.n99 Tryz.prog Tryz.lays99_ren := {
  mixed := by kernel_rfl
  f99 := Tryz.func143.trans (congrArg some (by kernel_rfl))
  f206 := Tryz.func207.trans (congrArg some (by kernel_rfl))
  t3 := Tryz.underlying3
  a3 := Tryz.isAgg3
  z3 := Tryz.sizeOf3
  v3 := Tryz.zeroValue3
  t4 := Tryz.underlying4
  a4 := Tryz.isAgg4
  z4 := Tryz.sizeOf4
  v4 := Tryz.zeroValue4
  t9 := Tryz.underlying9
  a9 := Tryz.isAgg9
  z9 := Tryz.sizeOf9
  v9 := Tryz.zeroValue9 }
open Go.RowKit Go.Lib in
theorem Tryz.strings_HasPrefix (s p : ByteArray) (w : World) :
    Calls Tryz.prog 143 #[.string s, .string p] w fun e w' => e = .returned (.bool (Lib.hasPrefix s.data.toList p.data.toList)) ∧ w' = w := Any.strings_HasPrefix Tryz.lays99 s p w
def Tryz.lays146_ren : Go.Shelf.Ren := ⟨fun | 146 => 101 | 221 => 117 | 268 => 180 | 138 => 181 | 143 => 182 | 195 => 228 | 197 => 229 | 218 => 230 | 219 => 189 | 260 => 284 | 217 => 72 | 225 => 234 | 224 => 235 | 267 => 236 | 266 => 115 | 314 => 287 | n => n, fun | 9 => 9 | 31 => 23 | 3 => 3 | 4 => 4 | 0 => 0 | 105 => 331 | 21 => 21 | 5 => 5 | 46 => 223 | 119 => 431 | 139 => 434 | 138 => 433 | 146 => 271 | 51 => 270 | n => n, fun | 1 => 4 | 3 => 9 | 4 => 10 | n => n⟩
theorem Tryz.lays146 : Go.Proofs.Lays.n146 Tryz.prog Tryz.lays146_ren := {
  mixed := by kernel_rfl
  f138 := Tryz.func181.trans (congrArg some (by kernel_rfl))
  f143 := Tryz.func182.trans (congrArg some (by kernel_rfl))
  f146 := Tryz.func101.trans (congrArg some (by kernel_rfl))
  f195 := Tryz.func228.trans (congrArg some (by kernel_rfl))
  f197 := Tryz.func229.trans (congrArg some (by kernel_rfl))
  f217 := Tryz.func72.trans (congrArg some (by kernel_rfl))
  f218 := Tryz.func230.trans (congrArg some (by kernel_rfl))
  f219 := Tryz.func189.trans (congrArg some (by kernel_rfl))
  f221 := Tryz.func117.trans (congrArg some (by kernel_rfl))
  f224 := Tryz.func235.trans (congrArg some (by kernel_rfl))
  f225 := Tryz.func234.trans (congrArg some (by kernel_rfl))
  f260 := Tryz.func284.trans (congrArg some (by kernel_rfl))
  f266 := Tryz.func115.trans (congrArg some (by kernel_rfl))
  f267 := Tryz.func236.trans (congrArg some (by kernel_rfl))
  f268 := Tryz.func180.trans (congrArg some (by kernel_rfl))
  f314 := Tryz.func287.trans (congrArg some (by kernel_rfl))
  t0 := Tryz.underlying0
  a0 := Tryz.isAgg0
  z0 := Tryz.sizeOf0
  v0 := Tryz.zeroValue0
  t3 := Tryz.underlying3
  a3 := Tryz.isAgg3
  z3 := Tryz.sizeOf3
  v3 := Tryz.zeroValue3
  t4 := Tryz.underlying4
  a4 := Tryz.isAgg4
  z4 := Tryz.sizeOf4
  v4 := Tryz.zeroValue4
  t5 := Tryz.underlying5
  a5 := Tryz.isAgg5
  z5 := Tryz.sizeOf5
  v5 := Tryz.zeroValue5
  t9 := Tryz.underlying9
  a9 := Tryz.isAgg9
  z9 := Tryz.sizeOf9
  v9 := Tryz.zeroValue9
  t21 := Tryz.underlying21
  a21 := Tryz.isAgg21
  z21 := Tryz.sizeOf21
  v21 := Tryz.zeroValue21
  t31 := Tryz.underlying23
  a31 := Tryz.isAgg23
  z31 := Tryz.sizeOf23
  v31 := Tryz.zeroValue23
  t46 := Tryz.underlying223
  a46 := Tryz.isAgg223
  z46 := Tryz.sizeOf223
  v46 := Tryz.zeroValue223
  t51 := Tryz.underlying270
  a51 := Tryz.isAgg270
  z51 := Tryz.sizeOf270
  v51 := Tryz.zeroValue270
  t105 := Tryz.underlying331
  a105 := Tryz.isAgg331
  z105 := Tryz.sizeOf331
  v105 := Tryz.zeroValue331
  t119 := Tryz.underlying431
  a119 := Tryz.isAgg431
  z119 := Tryz.sizeOf431
  t138 := Tryz.underlying433
  a138 := Tryz.isAgg433
  z138 := Tryz.sizeOf433
  v138 := Tryz.zeroValue433
  t139 := Tryz.underlying434
  a139 := Tryz.isAgg434
  z139 := Tryz.sizeOf434
  v139 := Tryz.zeroValue434
  t146 := Tryz.underlying271
  a146 := Tryz.isAgg271
  z146 := Tryz.sizeOf271
  v146 := Tryz.zeroValue271
  g1 := by kernel_rfl
  g3 := by kernel_rfl
  g4 := by kernel_rfl }
open Go.RowKit Go.Lib in
theorem Tryz.strings_Split (s sep : ByteArray) (m : Int) (w : World) (hs : s.size < 4294967281) (hm : w.cell? ⟨4, 0, none⟩ = some (.int .i64 m)) (h1 : 1 ≤ sep.size) :
    Calls Tryz.prog 101 #[.string s, .string sep] w fun e w' =>
      e = .returned (.slice (some ⟨w.heap.size, 0, none⟩) (Lib.countB s sep + 1) (Lib.countB s sep + 1)) ∧ w' = w.alloc (.cells ((Lib.splitB sep 0 (Lib.countB s sep) s).map Value.string).toArray 9) := Any.strings_Split Tryz.lays146 (by kernel_rfl) s sep m w hs hm h1
def Tryz.lays147_ren : Go.Shelf.Ren := ⟨fun | 147 => 74 | 221 => 117 | 268 => 180 | 138 => 181 | 143 => 182 | 195 => 228 | 197 => 229 | 218 => 230 | 219 => 189 | 260 => 284 | 217 => 72 | 225 => 234 | 224 => 235 | 267 => 236 | 266 => 115 | 314 => 287 | n => n, fun | 9 => 9 | 3 => 3 | 31 => 23 | 4 => 4 | 0 => 0 | 105 => 331 | 21 => 21 | 5 => 5 | 46 => 223 | 119 => 431 | 139 => 434 | 138 => 433 | 146 => 271 | 51 => 270 | n => n, fun | 1 => 4 | 3 => 9 | 4 => 10 | n => n⟩
theorem Tryz.lays147 : Go.Proofs.Lays.n147 Tryz.prog Tryz.lays147_ren := {
  mixed := by kernel_rfl
  f138 := Tryz.func181.trans (congrArg some (by kernel_rfl))
  f143 := Tryz.func182.trans (congrArg some (by kernel_rfl))
  f147 := Tryz.func74.trans (congrArg some (by kernel_rfl))
  f195 := Tryz.func228.trans (congrArg some (by kernel_rfl))
  f197 := Tryz.func229.trans (congrArg some (by kernel_rfl))
  f217 := Tryz.func72.trans (congrArg some (by kernel_rfl))
  f218 := Tryz.func230.trans (congrArg some (by kernel_rfl))
  f219 := Tryz.func189.trans (congrArg some (by kernel_rfl))
  f221 := Tryz.func117.trans (congrArg some (by kernel_rfl))
  f224 := Tryz.func235.trans (congrArg some (by kernel_rfl))
  f225 := Tryz.func234.trans (congrArg some (by kernel_rfl))
  f260 := Tryz.func284.trans (congrArg some (by kernel_rfl))
  f266 := Tryz.func115.trans (congrArg some (by kernel_rfl))
  f267 := Tryz.func236.trans (congrArg some (by kernel_rfl))
  f268 := Tryz.func180.trans (congrArg some (by kernel_rfl))
  f314 := Tryz.func287.trans (congrArg some (by kernel_rfl))
  t0 := Tryz.underlying0
  a0 := Tryz.isAgg0
  z0 := Tryz.sizeOf0
  v0 := Tryz.zeroValue0
  t3 := Tryz.underlying3
  a3 := Tryz.isAgg3
  z3 := Tryz.sizeOf3
  v3 := Tryz.zeroValue3
  t4 := Tryz.underlying4
  a4 := Tryz.isAgg4
  z4 := Tryz.sizeOf4
  v4 := Tryz.zeroValue4
  t5 := Tryz.underlying5
  a5 := Tryz.isAgg5
  z5 := Tryz.sizeOf5
  v5 := Tryz.zeroValue5
  t9 := Tryz.underlying9
  a9 := Tryz.isAgg9
  z9 := Tryz.sizeOf9
  v9 := Tryz.zeroValue9
  t21 := Tryz.underlying21
  a21 := Tryz.isAgg21
  z21 := Tryz.sizeOf21
  v21 := Tryz.zeroValue21
  t31 := Tryz.underlying23
  a31 := Tryz.isAgg23
  z31 := Tryz.sizeOf23
  v31 := Tryz.zeroValue23
  t46 := Tryz.underlying223
  a46 := Tryz.isAgg223
  z46 := Tryz.sizeOf223
  v46 := Tryz.zeroValue223
  t51 := Tryz.underlying270
  a51 := Tryz.isAgg270
  z51 := Tryz.sizeOf270
  v51 := Tryz.zeroValue270
  t105 := Tryz.underlying331
  a105 := Tryz.isAgg331
  z105 := Tryz.sizeOf331
  v105 := Tryz.zeroValue331
  t119 := Tryz.underlying431
  a119 := Tryz.isAgg431
  z119 := Tryz.sizeOf431
  t138 := Tryz.underlying433
  a138 := Tryz.isAgg433
  z138 := Tryz.sizeOf433
  v138 := Tryz.zeroValue433
  t139 := Tryz.underlying434
  a139 := Tryz.isAgg434
  z139 := Tryz.sizeOf434
  v139 := Tryz.zeroValue434
  t146 := Tryz.underlying271
  a146 := Tryz.isAgg271
  z146 := Tryz.sizeOf271
  v146 := Tryz.zeroValue271
  g1 := by kernel_rfl
  g3 := by kernel_rfl
  g4 := by kernel_rfl }
open Go.RowKit Go.Lib in
theorem Tryz.strings_SplitN (s sep : ByteArray) (n : Nat) (m : Int) (w : World) (hs : s.size < 4294967281) (hm : w.cell? ⟨4, 0, none⟩ = some (.int .i64 m)) (h1 : 1 ≤ sep.size) (hn : 1 ≤ n) (hn63 : n ≤ 9223372036854775807) :
    Calls Tryz.prog 74 #[.string s, .string sep, .int .i64 n] w fun e w' =>
      e = .returned (.slice (some ⟨w.heap.size, 0, none⟩) (Lib.splitB sep 0 (min n (s.size + 1) - 1) s).length (min n (s.size + 1))) ∧ w' = w.alloc (.cells (Lib.cellsOf (Lib.splitB sep 0 (min n (s.size + 1) - 1) s) (min n (s.size + 1))) 9) := Any.strings_SplitN Tryz.lays147 (by kernel_rfl) s sep n m w hs hm h1 hn hn63
def Tryz.lays212_ren : Go.Shelf.Ren := ⟨fun | 212 => 114 | 263 => 178 | 264 => 179 | n => n, fun | 46 => 223 | 51 => 270 | 146 => 271 | 53 => 273 | 148 => 274 | n => n, fun | n => n⟩
theorem Tryz.lays212 : Go.Proofs.Lays.n212 Tryz.prog Tryz.lays212_ren := {
  mixed := by kernel_rfl
  f212 := Tryz.func114.trans (congrArg some (by kernel_rfl))
  f263 := Tryz.func178.trans (congrArg some (by kernel_rfl))
  f264 := Tryz.func179.trans (congrArg some (by kernel_rfl))
  t46 := Tryz.underlying223
  a46 := Tryz.isAgg223
  z46 := Tryz.sizeOf223
  v46 := Tryz.zeroValue223
  t51 := Tryz.underlying270
  a51 := Tryz.isAgg270
  z51 := Tryz.sizeOf270
  v51 := Tryz.zeroValue270
  t53 := Tryz.underlying273
  a53 := Tryz.isAgg273
  z53 := Tryz.sizeOf273
  v53 := Tryz.zeroValue273
  t146 := Tryz.underlying271
  a146 := Tryz.isAgg271
  z146 := Tryz.sizeOf271
  v146 := Tryz.zeroValue271
  t148 := Tryz.underlying274
  a148 := Tryz.isAgg274
  z148 := Tryz.sizeOf274
  v148 := Tryz.zeroValue274 }
open Go.RowKit Go.Lib in
theorem Tryz.bits_Mul (x y : Nat) (hx : x < 18446744073709551616) (hy : y < 18446744073709551616) (w : World) :
    Calls Tryz.prog 114 #[.int .u64 x, .int .u64 y] w fun e w' => e = .returned (.tuple #[.int .u64 ((x * y / 18446744073709551616 : Nat) : Int), .int .u64 ((x * y % 18446744073709551616 : Nat) : Int)]) ∧ w' = w := Any.bits_Mul Tryz.lays212 x y hx hy w
open Go.RowKit Go.Lib in
theorem Tryz.strings_ContainsFunc_grows (g : Nat) (lb : Array Value) (eg : ∀ args w, (callFunc g args).run Tryz.prog w = .ok (.enter g args) w) (p : Nat → Bool) (s : ByteArray) (w : World) (hp : PredGrows Tryz.prog g lb p w) :
    Calls Tryz.prog 78 #[.string s, .func (.func g) #[] lb] w fun e w' => e = .returned (.bool (decide (0 ≤ Lib.idxFunc p true s))) ∧ Below w.heap.size w w' := Any.strings_ContainsFunc_grows Tryz.laysGw17 g lb eg p s w hp
def Tryz.lays109_ren : Go.Shelf.Ren := ⟨fun | 109 => 157 | n => n, fun | 31 => 23 | 9 => 9 | 3 => 3 | 0 => 0 | 4 => 4 | n => n, fun | n => n⟩
theorem Tryz.lays109 : Go.Proofs.Lays.n109 Tryz.prog Tryz.lays109_ren := {
  mixed := by kernel_rfl
  f109 := Tryz.func157.trans (congrArg some (by kernel_rfl))
  t0 := Tryz.underlying0
  a0 := Tryz.isAgg0
  z0 := Tryz.sizeOf0
  v0 := Tryz.zeroValue0
  t3 := Tryz.underlying3
  a3 := Tryz.isAgg3
  z3 := Tryz.sizeOf3
  v3 := Tryz.zeroValue3
  t4 := Tryz.underlying4
  a4 := Tryz.isAgg4
  z4 := Tryz.sizeOf4
  v4 := Tryz.zeroValue4
  t9 := Tryz.underlying9
  a9 := Tryz.isAgg9
  z9 := Tryz.sizeOf9
  v9 := Tryz.zeroValue9
  t31 := Tryz.underlying23
  a31 := Tryz.isAgg23
  z31 := Tryz.sizeOf23
  v31 := Tryz.zeroValue23 }
open Go.Lib in
theorem Tryz.slices_Index_string (b off n c : Nat) (zs : List ByteArray) (x : ByteArray) (w : World) (hz : n ≤ zs.length) (hbig : n ≤ 9223372036854775807) (hc : ∀ j, j < zs.length → w.cell? ⟨b, off + j, none⟩ = some (.string (zs.getD j ByteArray.empty))) :
    Calls Tryz.prog 157 #[.slice (some ⟨b, off, none⟩) n c, .string x] w fun e w' => e = .returned (.int .i64 (Lib.idxOfS (zs.take n) x)) ∧ w' = w := Any.slices_Index_string Tryz.lays109 b off n c zs x w hz hbig hc
def Tryz.lays110_ren : Go.Shelf.Ren := ⟨fun | 110 => 100 | 109 => 157 | n => n, fun | 31 => 23 | 9 => 9 | 4 => 4 | 3 => 3 | 0 => 0 | n => n, fun | n => n⟩
theorem Tryz.lays110 : Go.Proofs.Lays.n110 Tryz.prog Tryz.lays110_ren := {
  mixed := by kernel_rfl
  f109 := Tryz.func157.trans (congrArg some (by kernel_rfl))
  f110 := Tryz.func100.trans (congrArg some (by kernel_rfl))
  t0 := Tryz.underlying0
  a0 := Tryz.isAgg0
  z0 := Tryz.sizeOf0
  v0 := Tryz.zeroValue0
  t3 := Tryz.underlying3
  a3 := Tryz.isAgg3
  z3 := Tryz.sizeOf3
  v3 := Tryz.zeroValue3
  t4 := Tryz.underlying4
  a4 := Tryz.isAgg4
  z4 := Tryz.sizeOf4
  v4 := Tryz.zeroValue4
  t9 := Tryz.underlying9
  a9 := Tryz.isAgg9
  z9 := Tryz.sizeOf9
  v9 := Tryz.zeroValue9
  t31 := Tryz.underlying23
  a31 := Tryz.isAgg23
  z31 := Tryz.sizeOf23
  v31 := Tryz.zeroValue23 }
open Go.Lib in
theorem Tryz.slices_Contains_string (b off n c : Nat) (zs : List ByteArray) (x : ByteArray) (w : World) (hz : n ≤ zs.length) (hbig : n ≤ 9223372036854775807) (hc : ∀ j, j < zs.length → w.cell? ⟨b, off + j, none⟩ = some (.string (zs.getD j ByteArray.empty))) :
    Calls Tryz.prog 100 #[.slice (some ⟨b, off, none⟩) n c, .string x] w fun e w' => e = .returned (.bool (Lib.containsS (zs.take n) x)) ∧ w' = w := Any.slices_Contains_string Tryz.lays110 b off n c zs x w hz hbig hc
def Tryz.laysNm216_ren : Go.Shelf.Ren := ⟨fun | 16 => 31 | n => n, fun | 24 => 23 | 9 => 9 | 4 => 4 | n => n, fun | n => n⟩
theorem Tryz.laysNm216 : Go.Proofs.Lays2.n16 Tryz.prog Tryz.laysNm216_ren := {
  mixed := by kernel_rfl
  f16 := Tryz.func31.trans (congrArg some (by kernel_rfl))
  t4 := Tryz.underlying4
  a4 := Tryz.isAgg4
  z4 := Tryz.sizeOf4
  v4 := Tryz.zeroValue4
  t9 := Tryz.underlying9
  a9 := Tryz.isAgg9
  z9 := Tryz.sizeOf9
  v9 := Tryz.zeroValue9
  t24 := Tryz.underlying23
  a24 := Tryz.isAgg23
  z24 := Tryz.sizeOf23
  v24 := Tryz.zeroValue23
  i9 := by kernel_rfl }
open Go.RowKit Go.Lib in
theorem Tryz.slices_Clone_string (b off n c : Nat) (zs : List ByteArray) (w : World) (hz : n ≤ zs.length) (hbig : n * 16 ≤ 140737488355328) (hc : ∀ j, j < zs.length → w.cell? ⟨b, off + j, none⟩ = some (.string (zs.getD j ByteArray.empty))) :
    Calls Tryz.prog 31 #[.slice (some ⟨b, off, none⟩) n c] w fun e w' => ∃ v', e = .returned v' ∧ w'.ownsRow w.heap.size 9 1 v' n ((zs.take n).map (Value.string)) ∧ v' ≠ .slice none 0 0 ∧ Below w.heap.size w w' := Any.slices_Clone_string Tryz.laysNm216 b off n c zs w hz hbig hc
open Go.RowKit Go.Lib in
theorem Tryz.slices_Clone_string_zero (a : Addr) (c : Nat) (w : World) :
    Calls Tryz.prog 31 #[.slice (some a) 0 c] w fun e w' => ∃ v', e = .returned v' ∧ w'.ownsRow w.heap.size 9 1 v' 0 [] ∧ v' ≠ .slice none 0 0 ∧ Below w.heap.size w w' := Any.slices_Clone_string_zero Tryz.laysNm216 a c w
def Tryz.laysSlE041_f31_ren : Go.Shelf.Ren := ⟨fun | 41 => 31 | n => n, fun | 22 => 23 | 23 => 9 | 4 => 4 | n => n, fun | n => n⟩
theorem Tryz.laysSlE041_f31 : Go.Proofs.SlLaysE0.n41 Tryz.prog Tryz.laysSlE041_f31_ren := {
  mixed := by kernel_rfl
  f41 := ⟨Tryz.f31.name, by decide, Tryz.func31.trans (congrArg some (by kernel_rfl))⟩
  t4 := Tryz.underlying4
  a4 := Tryz.isAgg4
  z4 := Tryz.sizeOf4
  v4 := Tryz.zeroValue4
  t22 := Tryz.underlying23
  a22 := Tryz.isAgg23
  z22 := Tryz.sizeOf23
  v22 := Tryz.zeroValue23 }
open Go.RowKit Go.Lib in
theorem Tryz.slices_Clone_nil (n c : Nat) (w : World) :
    Calls Tryz.prog 31 #[.slice none n c] w fun e w' => e = .returned (.slice none 0 0) ∧ w' = w := AnyE.slices_Clone_nil Tryz.laysSlE041_f31 n c w
end Go.Proofs
