/-
  The shelf's contracts at this program.
-/
import Derived.Shelf.Strings.Builder1
import Derived.Shelf.Strings.Builder2
import Derived.Shelf.Strings.OnBuilder
import Derived.Shelf.Small.Bits
import Derived.Shelf.Strings.BuilderF
import Derived.Shelf.Strings.BuilderK
import Derived.Shelf.Strings.Builder2Cap
import Derived.Shelf.Strconv.Itoa0
import Derived.Shelf.Sort.Plain
import Derived.Shelf.Slices.Reverse
import Derived.Ground.Names2Prog
import Derived.Shelf.Slices.Clone
import Derived.Shelf.Slices.SearchI
import Derived.Shelf.Slices.Cells
import Derived.Shelf.Slices.In.SortNone
import Derived.Ground.SlgnProg
import Derived.Shelf.SlicesE.Clone
import Derived.Test.YtbmclapepgfjhaaGreatProg
set_option linter.unusedSectionVars false
set_option linter.unusedVariables false
set_option linter.unusedSimpArgs false
namespace Go.Proofs
open Go.Shelf
def Tryz.lays156_ren : Go.Shelf.Ren := ⟨fun | 156 => 107 | 165 => 124 | 166 => 125 | 169 => 126 | 240 => 133 | 241 => 134 | 276 => 136 | 277 => 137 | n => n, fun | 31 => 47 | 9 => 9 | 3 => 3 | 4 => 4 | 0 => 0 | 20 => 20 | 72 => 168 | 76 => 172 | 70 => 165 | 37 => 166 | 75 => 171 | 127 => 180 | 164 => 183 | 5 => 5 | 80 => 128 | n => n, fun | n => n⟩
theorem Tryz.lays156 : Go.Proofs.Lays.n156 Tryz.prog Tryz.lays156_ren := {
 mixed := by kernel_rfl
 f156 := Tryz.func107.trans (congrArg some (by kernel_rfl))
 f165 := Tryz.func124.trans (congrArg some (by kernel_rfl))
 f166 := Tryz.func125.trans (congrArg some (by kernel_rfl))
 f169 := Tryz.func126.trans (congrArg some (by kernel_rfl))
 f240 := Tryz.func133.trans (congrArg some (by kernel_rfl))
 f241 := Tryz.func134.trans (congrArg some (by kernel_rfl))
 f276 := Tryz.func136.trans (congrArg some (by kernel_rfl))
 f277 := Tryz.func137.trans (congrArg some (by kernel_rfl))
 t0 := Tryz.underlying0
 a0 := Tryz.isAgg0
 z0 := Tryz.sizeOf0
 v0 := Tryz.zeroValue0
 t3 := Tryz.underlying3
 a3 := Tryz.isAgg3
 z3 := Tryz.sizeOf3
 v3 := Tryz.zeroValue3
 t4 := Tryz.underlying4
 a4 := Tryz.isAgg4
 z4 := Tryz.sizeOf4
 v4 := Tryz.zeroValue4
 t9 := Tryz.underlying9
 a9 := Tryz.isAgg9
 z9 := Tryz.sizeOf9
 v9 := Tryz.zeroValue9
 t20 := Tryz.underlying20
 a20 := Tryz.isAgg20
 z20 := Tryz.sizeOf20
 v20 := Tryz.zeroValue20
 t31 := Tryz.underlying47
 a31 := Tryz.isAgg47
 z31 := Tryz.sizeOf47
 v31 := Tryz.zeroValue47
 t37 := Tryz.underlying166
 a37 := Tryz.isAgg166
 z37 := Tryz.sizeOf166
 v37 := Tryz.zeroValue166
 t70 := Tryz.underlying165
 a70 := Tryz.isAgg165
 z70 := Tryz.sizeOf165
 v70 := Tryz.zeroValue165
 t72 := Tryz.underlying168
 a72 := Tryz.isAgg168
 z72 := Tryz.sizeOf168
 v72 := Tryz.zeroValue168
 t75 := Tryz.underlying171
 a75 := Tryz.isAgg171
 z75 := Tryz.sizeOf171
 v75 := Tryz.zeroValue171
 t76 := Tryz.underlying172
 a76 := Tryz.isAgg172
 z76 := Tryz.sizeOf172
 v76 := Tryz.zeroValue172
 t127 := Tryz.underlying180
 a127 := Tryz.isAgg180
 z127 := Tryz.sizeOf180
 v127 := Tryz.zeroValue180
 t164 := Tryz.underlying183
 a164 := Tryz.isAgg183
 z164 := Tryz.sizeOf183
 v164 := Tryz.zeroValue183 }
theorem Tryz.Builder_Extra_156 : Builder.Extra Tryz.prog Tryz.lays156_ren := {
 sizeBuilder := by kernel_rfl
 liesBuilder := by kernel_rfl
 t5 := Tryz.underlying5
 a5 := Tryz.isAgg5
 z5 := Tryz.sizeOf5
 v5 := Tryz.zeroValue5
 infoByte := by kernel_rfl
 cellsByte := by kernel_rfl
 sizeByte := by kernel_rfl
 neB5 := by decide }
open Go.RowKit in
theorem Tryz.strings_Join (bk o c : Nat) (xs : List ByteArray) (sep : ByteArray) (w : World) (hcells : ∀ (j : Nat) x, xs[j]? = some x → w.cell? ⟨bk, o + j, none⟩ = some (.string x)) (hbk : bk < w.heap.size) (hN : xs.length ≤ 140737488355328) (hcap : xs.length ≤ c) (hlen : (Lib.join (xs.map (·.data.toList)) sep.data.toList).length ≤ 140737488355328) :
 Calls Tryz.prog 107 #[.slice (some ⟨bk, o, none⟩) xs.length c, .string sep] w fun e w' => e = .returned (.string ⟨(Lib.join (xs.map (·.data.toList)) sep.data.toList).toArray⟩) ∧ Below w.heap.size w w' := Any.strings_Join Tryz.lays156 Tryz.Builder_Extra_156 bk o c xs sep w hcells hbk hN hcap hlen
def Tryz.lays189_ren : Go.Shelf.Ren := ⟨fun | 189 => 73 | 125 => 102 | 257 => 101 | 128 => 121 | 129 => 122 | 294 => 112 | 295 => 113 | 296 => 114 | 297 => 115 | 298 => 116 | 299 => 117 | 216 => 118 | 300 => 119 | 301 => 120 | 328 => 127 | 329 => 128 | 330 => 129 | 331 => 130 | 332 => 131 | 215 => 132 | 343 => 135 | n => n, fun | 28 => 25 | 3 => 3 | 46 => 144 | 0 => 0 | 51 => 162 | 53 => 164 | 4 => 4 | 183 => 154 | 182 => 153 | 131 => 159 | 5 => 5 | 9 => 9 | 218 => 174 | 222 => 178 | 228 => 181 | 229 => 94 | n => n, fun | n => n⟩
theorem Tryz.lays189 : Go.Proofs.Lays.n189 Tryz.prog Tryz.lays189_ren := {
 mixed := by kernel_rfl
 f125 := Tryz.func102.trans (congrArg some (by kernel_rfl))
 f128 := Tryz.func121.trans (congrArg some (by kernel_rfl))
 f129 := Tryz.func122.trans (congrArg some (by kernel_rfl))
 f189 := Tryz.func73.trans (congrArg some (by kernel_rfl))
 f215 := Tryz.func132.trans (congrArg some (by kernel_rfl))
 f216 := Tryz.func118.trans (congrArg some (by kernel_rfl))
 f257 := Tryz.func101.trans (congrArg some (by kernel_rfl))
 f294 := Tryz.func112.trans (congrArg some (by kernel_rfl))
 f295 := Tryz.func113.trans (congrArg some (by kernel_rfl))
 f296 := Tryz.func114.trans (congrArg some (by kernel_rfl))
 f297 := Tryz.func115.trans (congrArg some (by kernel_rfl))
 f298 := Tryz.func116.trans (congrArg some (by kernel_rfl))
 f299 := Tryz.func117.trans (congrArg some (by kernel_rfl))
 f300 := Tryz.func119.trans (congrArg some (by kernel_rfl))
 f301 := Tryz.func120.trans (congrArg some (by kernel_rfl))
 f328 := Tryz.func127.trans (congrArg some (by kernel_rfl))
 f329 := Tryz.func128.trans (congrArg some (by kernel_rfl))
 f330 := Tryz.func129.trans (congrArg some (by kernel_rfl))
 f331 := Tryz.func130.trans (congrArg some (by kernel_rfl))
 f332 := Tryz.func131.trans (congrArg some (by kernel_rfl))
 f343 := Tryz.func135.trans (congrArg some (by kernel_rfl))
 t0 := Tryz.underlying0
 a0 := Tryz.isAgg0
 z0 := Tryz.sizeOf0
 v0 := Tryz.zeroValue0
 t3 := Tryz.underlying3
 a3 := Tryz.isAgg3
 z3 := Tryz.sizeOf3
 v3 := Tryz.zeroValue3
 t4 := Tryz.underlying4
 a4 := Tryz.isAgg4
 z4 := Tryz.sizeOf4
 v4 := Tryz.zeroValue4
 t5 := Tryz.underlying5
 a5 := Tryz.isAgg5
 z5 := Tryz.sizeOf5
 v5 := Tryz.zeroValue5
 t9 := Tryz.underlying9
 a9 := Tryz.isAgg9
 z9 := Tryz.sizeOf9
 v9 := Tryz.zeroValue9
 t28 := Tryz.underlying25
 a28 := Tryz.isAgg25
 z28 := Tryz.sizeOf25
 v28 := Tryz.zeroValue25
 t46 := Tryz.underlying144
 a46 := Tryz.isAgg144
 z46 := Tryz.sizeOf144
 v46 := Tryz.zeroValue144
 t51 := Tryz.underlying162
 a51 := Tryz.isAgg162
 z51 := Tryz.sizeOf162
 v51 := Tryz.zeroValue162
 t53 := Tryz.underlying164
 a53 := Tryz.isAgg164
 z53 := Tryz.sizeOf164
 v53 := Tryz.zeroValue164
 t131 := Tryz.underlying159
 a131 := Tryz.isAgg159
 z131 := Tryz.sizeOf159
 v131 := Tryz.zeroValue159
 t182 := Tryz.underlying153
 a182 := Tryz.isAgg153
 z182 := Tryz.sizeOf153
 v182 := Tryz.zeroValue153
 t183 := Tryz.underlying154
 a183 := Tryz.isAgg154
 z183 := Tryz.sizeOf154
 v183 := Tryz.zeroValue154
 t218 := Tryz.underlying174
 a218 := Tryz.isAgg174
 z218 := Tryz.sizeOf174
 v218 := Tryz.zeroValue174
 t222 := Tryz.underlying178
 a222 := Tryz.isAgg178
 z222 := Tryz.sizeOf178
 v222 := Tryz.zeroValue178
 t228 := Tryz.underlying181
 a228 := Tryz.isAgg181
 z228 := Tryz.sizeOf181
 v228 := Tryz.zeroValue181
 t229 := Tryz.underlying94
 a229 := Tryz.isAgg94
 z229 := Tryz.sizeOf94
 v229 := Tryz.zeroValue94 }
open Go.Sort Go.RowKit in
theorem Tryz.slices_Sort_int (blk off cap : Nat) (zs : List Int) (w : World) (hH : Holds (Value.int .i64) w blk off zs.toArray) (hblk : blk < w.heap.size) (hsz : zs.length < 4611686018427387904) :
 Calls Tryz.prog 73 #[.slice (some ⟨blk, off, none⟩) zs.length cap] w fun e w' =>
  e = .returned (.tuple #[]) ∧ ∃ n os, w' = grow (putRow (Value.int .i64) (Sort.ahead w n) blk off (zs.mergeSort fun x y => decide (x ≤ y)).toArray) os := Any.slices_Sort_int Tryz.lays189 blk off cap zs w hH hblk hsz
open Go.RowKit Go.Sort in
theorem Tryz.slices_Sort_int_none (p : Option Addr) (cap : Nat) (w : World) :
 Calls Tryz.prog 73 #[.slice p 0 cap] w fun e w' => e = .returned (.tuple #[]) ∧ w' = w := Any.slices_Sort_int_none Tryz.lays189 p cap w
def Tryz.laysSlE041_f49_ren : Go.Shelf.Ren := ⟨fun | 41 => 49 | n => n, fun | 22 => 25 | 23 => 3 | 4 => 4 | n => n, fun | n => n⟩
theorem Tryz.laysSlE041_f49 : Go.Proofs.SlLaysE0.n41 Tryz.prog Tryz.laysSlE041_f49_ren := {
 mixed := by kernel_rfl
 f41 := ⟨Tryz.f49.name, by decide, Tryz.func49.trans (congrArg some (by kernel_rfl))⟩
 t4 := Tryz.underlying4
 a4 := Tryz.isAgg4
 z4 := Tryz.sizeOf4
 v4 := Tryz.zeroValue4
 t22 := Tryz.underlying25
 a22 := Tryz.isAgg25
 z22 := Tryz.sizeOf25
 v22 := Tryz.zeroValue25 }
def Tryz.laysSlE041_f108_ren : Go.Shelf.Ren := ⟨fun | 41 => 108 | n => n, fun | 22 => 47 | 23 => 9 | 4 => 4 | n => n, fun | n => n⟩
theorem Tryz.laysSlE041_f108 : Go.Proofs.SlLaysE0.n41 Tryz.prog Tryz.laysSlE041_f108_ren := {
 mixed := by kernel_rfl
 f41 := ⟨Tryz.f108.name, by decide, Tryz.func108.trans (congrArg some (by kernel_rfl))⟩
 t4 := Tryz.underlying4
 a4 := Tryz.isAgg4
 z4 := Tryz.sizeOf4
 v4 := Tryz.zeroValue4
 t22 := Tryz.underlying47
 a22 := Tryz.isAgg47
 z22 := Tryz.sizeOf47
 v22 := Tryz.zeroValue47 }
open Go.RowKit Go.Lib in
theorem Tryz.slices_Clone_nil_f108 (n c : Nat) (w : World) :
 Calls Tryz.prog 108 #[.slice none n c] w fun e w' => e = .returned (.slice none 0 0) ∧ w' = w := AnyE.slices_Clone_nil Tryz.laysSlE041_f108 n c w
end Go.Proofs
