/-
  The shelf's contracts at this program.
-/
import Derived.Shelf.Strings.Builder1
import Derived.Shelf.Strings.Builder2
import Derived.Shelf.Strings.OnBuilder
import Derived.Shelf.Small.Bits
import Derived.Shelf.Strings.BuilderF
import Derived.Shelf.Strings.BuilderK
import Derived.Shelf.Strings.Builder2Cap
import Derived.Shelf.Strconv.Itoa0
import Derived.Shelf.Strconv.Itoa1
import Derived.Shelf.LaysM
import Derived.Shelf.Strconv.Itoa2
import Derived.Shelf.Strconv.Itoa3
import Derived.Test.YtfihcmhknhbndaaGreatDoorProg
set_option linter.unusedSectionVars false
set_option linter.unusedVariables false
set_option linter.unusedSimpArgs false
namespace Go.Proofs
open Go.Shelf
def Tryz.lays156_ren : Go.Shelf.Ren := ⟨fun | 156 => 170 | 165 => 216 | 166 => 217 | 169 => 218 | 240 => 233 | 241 => 234 | 276 => 243 | 277 => 244 | n => n, fun | 31 => 131 | 9 => 9 | 3 => 3 | 4 => 4 | 0 => 0 | 20 => 20 | 72 => 308 | 76 => 312 | 70 => 305 | 37 => 306 | 75 => 311 | 127 => 324 | 164 => 332 | 5 => 5 | 80 => 314 | n => n, fun | n => n⟩
theorem Tryz.lays156 : Go.Proofs.Lays.n156 Tryz.prog Tryz.lays156_ren := {
  mixed := by kernel_rfl
  f156 := Tryz.func170.trans (congrArg some (by kernel_rfl))
  f165 := Tryz.func216.trans (congrArg some (by kernel_rfl))
  f166 := Tryz.func217.trans (congrArg some (by kernel_rfl))
  f169 := Tryz.func218.trans (congrArg some (by kernel_rfl))
  f240 := Tryz.func233.trans (congrArg some (by kernel_rfl))
  f241 := Tryz.func234.trans (congrArg some (by kernel_rfl))
  f276 := Tryz.func243.trans (congrArg some (by kernel_rfl))
  f277 := Tryz.func244.trans (congrArg some (by kernel_rfl))
  t0 := Tryz.underlying0
  a0 := Tryz.isAgg0
  z0 := Tryz.sizeOf0
  v0 := Tryz.zeroValue0
  t3 := Tryz.underlying3
  a3 := Tryz.isAgg3
  z3 := Tryz.sizeOf3
  v3 := Tryz.zeroValue3
  t4 := Tryz.underlying4
  a4 := Tryz.isAgg4
  z4 := Tryz.sizeOf4
  v4 := Tryz.zeroValue4
  t9 := Tryz.underlying9
  a9 := Tryz.isAgg9
  z9 := Tryz.sizeOf9
  v9 := Tryz.zeroValue9
  t20 := Tryz.underlying20
  a20 := Tryz.isAgg20
  z20 := Tryz.sizeOf20
  v20 := Tryz.zeroValue20
  t31 := Tryz.underlying131
  a31 := Tryz.isAgg131
  z31 := Tryz.sizeOf131
  v31 := Tryz.zeroValue131
  t37 := Tryz.underlying306
  a37 := Tryz.isAgg306
  z37 := Tryz.sizeOf306
  v37 := Tryz.zeroValue306
  t70 := Tryz.underlying305
  a70 := Tryz.isAgg305
  z70 := Tryz.sizeOf305
  v70 := Tryz.zeroValue305
  t72 := Tryz.underlying308
  a72 := Tryz.isAgg308
  z72 := Tryz.sizeOf308
  v72 := Tryz.zeroValue308
  t75 := Tryz.underlying311
  a75 := Tryz.isAgg311
  z75 := Tryz.sizeOf311
  v75 := Tryz.zeroValue311
  t76 := Tryz.underlying312
  a76 := Tryz.isAgg312
  z76 := Tryz.sizeOf312
  v76 := Tryz.zeroValue312
  t127 := Tryz.underlying324
  a127 := Tryz.isAgg324
  z127 := Tryz.sizeOf324
  v127 := Tryz.zeroValue324
  t164 := Tryz.underlying332
  a164 := Tryz.isAgg332
  z164 := Tryz.sizeOf332
  v164 := Tryz.zeroValue332 }
theorem Tryz.Builder_Extra_156 : Builder.Extra Tryz.prog Tryz.lays156_ren := {
  sizeBuilder := by kernel_rfl
  liesBuilder := by kernel_rfl
  t5 := Tryz.underlying5
  a5 := Tryz.isAgg5
  z5 := Tryz.sizeOf5
  v5 := Tryz.zeroValue5
  infoByte := by kernel_rfl
  cellsByte := by kernel_rfl
  sizeByte := by kernel_rfl
  neB5 := by decide }
open Go.RowKit in
theorem Tryz.strings_Join (bk o c : Nat) (xs : List ByteArray) (sep : ByteArray) (w : World) (hcells : ∀ (j : Nat) x, xs[j]? = some x → w.cell? ⟨bk, o + j, none⟩ = some (.string x)) (hbk : bk < w.heap.size) (hN : xs.length ≤ 140737488355328) (hcap : xs.length ≤ c) (hlen : (Lib.join (xs.map (·.data.toList)) sep.data.toList).length ≤ 140737488355328) :
    Calls Tryz.prog 170 #[.slice (some ⟨bk, o, none⟩) xs.length c, .string sep] w fun e w' => e = .returned (.string ⟨(Lib.join (xs.map (·.data.toList)) sep.data.toList).toArray⟩) ∧ Below w.heap.size w w' := Any.strings_Join Tryz.lays156 Tryz.Builder_Extra_156 bk o c xs sep w hcells hbk hN hcap hlen
def Tryz.laysM171_ren : Go.Shelf.Ren := ⟨fun | 171 => 169 | 243 => 215 | 246 => 232 | 283 => 239 | 284 => 240 | 285 => 241 | 286 => 242 | 129 => 247 | 317 => 246 | 318 => 248 | 319 => 249 | 320 => 250 | 337 => 251 | 338 => 252 | n => n, fun | 3 => 3 | 9 => 9 | 2 => 2 | 4 => 4 | 171 => 328 | 0 => 0 | 53 => 275 | 37 => 306 | 5 => 5 | 173 => 330 | 212 => 336 | 51 => 277 | 20 => 20 | 213 => 337 | 46 => 202 | 232 => 338 | 233 => 339 | n => n, fun | 17 => 0 | 18 => 2 | 19 => 3 | n => n⟩
theorem Tryz.laysM171 : Go.Proofs.LaysM.n171 Tryz.prog Tryz.laysM171_ren := {
  mixed := by kernel_rfl
  f129 := Tryz.func247.trans (congrArg some (by kernel_rfl))
  f171 := Tryz.func169.trans (congrArg some (by kernel_rfl))
  f243 := Tryz.func215.trans (congrArg some (by kernel_rfl))
  f246 := Tryz.func232.trans (congrArg some (by kernel_rfl))
  f283 := Tryz.func239.trans (congrArg some (by kernel_rfl))
  f284 := Tryz.func240.trans (congrArg some (by kernel_rfl))
  f285 := Tryz.func241.trans (congrArg some (by kernel_rfl))
  f286 := Tryz.func242.trans (congrArg some (by kernel_rfl))
  f317 := Tryz.func246.trans (congrArg some (by kernel_rfl))
  f318 := Tryz.func248.trans (congrArg some (by kernel_rfl))
  f319 := Tryz.func249.trans (congrArg some (by kernel_rfl))
  f320 := Tryz.func250.trans (congrArg some (by kernel_rfl))
  f337 := Tryz.func251.trans (congrArg some (by kernel_rfl))
  f338 := Tryz.func252.trans (congrArg some (by kernel_rfl))
  t0 := Tryz.underlying0
  a0 := Tryz.isAgg0
  z0 := Tryz.sizeOf0
  v0 := Tryz.zeroValue0
  t2 := Tryz.underlying2
  a2 := Tryz.isAgg2
  z2 := Tryz.sizeOf2
  v2 := Tryz.zeroValue2
  t3 := Tryz.underlying3
  a3 := Tryz.isAgg3
  z3 := Tryz.sizeOf3
  v3 := Tryz.zeroValue3
  t4 := Tryz.underlying4
  a4 := Tryz.isAgg4
  z4 := Tryz.sizeOf4
  v4 := Tryz.zeroValue4
  t5 := Tryz.underlying5
  a5 := Tryz.isAgg5
  z5 := Tryz.sizeOf5
  v5 := Tryz.zeroValue5
  t9 := Tryz.underlying9
  a9 := Tryz.isAgg9
  z9 := Tryz.sizeOf9
  v9 := Tryz.zeroValue9
  t20 := Tryz.underlying20
  a20 := Tryz.isAgg20
  z20 := Tryz.sizeOf20
  v20 := Tryz.zeroValue20
  t37 := Tryz.underlying306
  a37 := Tryz.isAgg306
  z37 := Tryz.sizeOf306
  v37 := Tryz.zeroValue306
  t46 := Tryz.underlying202
  a46 := Tryz.isAgg202
  z46 := Tryz.sizeOf202
  v46 := Tryz.zeroValue202
  t51 := Tryz.underlying277
  a51 := Tryz.isAgg277
  z51 := Tryz.sizeOf277
  v51 := Tryz.zeroValue277
  t53 := Tryz.underlying275
  a53 := Tryz.isAgg275
  z53 := Tryz.sizeOf275
  v53 := Tryz.zeroValue275
  t171 := Tryz.underlying328
  a171 := Tryz.isAgg328
  z171 := Tryz.sizeOf328
  v171 := Tryz.zeroValue328
  t173 := Tryz.underlying330
  a173 := Tryz.isAgg330
  z173 := Tryz.sizeOf330
  v173 := Tryz.zeroValue330
  t212 := Tryz.underlying336
  a212 := Tryz.isAgg336
  z212 := Tryz.sizeOf336
  v212 := Tryz.zeroValue336
  t213 := Tryz.underlying337
  a213 := Tryz.isAgg337
  z213 := Tryz.sizeOf337
  t232 := Tryz.underlying338
  a232 := Tryz.isAgg338
  z232 := Tryz.sizeOf338
  v232 := Tryz.zeroValue338
  t233 := Tryz.underlying339
  a233 := Tryz.isAgg339
  z233 := Tryz.sizeOf339
  v233 := Tryz.zeroValue339
  g17 := by kernel_rfl
  g18 := by kernel_rfl
  g19 := by kernel_rfl
  i0 := by kernel_rfl
  i2 := by kernel_rfl
  i3 := by kernel_rfl
  i4 := by kernel_rfl
  i5 := by kernel_rfl
  i9 := by kernel_rfl
  i20 := by kernel_rfl
  i37 := by kernel_rfl
  i46 := by kernel_rfl
  i51 := by kernel_rfl
  i53 := by kernel_rfl
  i171 := by kernel_rfl
  i173 := by kernel_rfl
  i212 := by kernel_rfl
  i232 := by kernel_rfl
  i233 := by kernel_rfl
  m17 := by kernel_rfl
  m18 := by kernel_rfl
  m19 := by kernel_rfl }
open Go.RowKit Go.Sort Go.Lib in
theorem Tryz.strconv_Itoa (n : Int) (h0 : -9223372036854775808 ≤ n) (h1 : n ≤ 9223372036854775807) (w : World) (htab : Lib.TabIs Tryz.prog w "internal/strconv.uint64pow10" .u64 Lib.pow10Tab) :
    Calls Tryz.prog 169 #[.int .i64 n] w fun e w' => e = .returned (.string ⟨(Lib.itoa n).toArray⟩) ∧ ∃ k os, w' = grow (w.drewN k) os := Any.strconv_Itoa Tryz.laysM171 n h0 h1 w htab
end Go.Proofs
