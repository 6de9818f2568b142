/- The library contracts of the lexer, laid by the kit own shelf. -/
import Derived.Shelf.Slices.Turned
import Derived.Shelf.Small.Strs
import Derived.Shelf.Strings.Fields
import Derived.Shelf.Strings.Prefix
import Derived.Ground.Names2Prog
import Derived.Ground.SlgnProg
import Derived.Test.YtbnkncemfadfjaaGreatDoorProg
set_option linter.unusedVariables false
set_option linter.unusedSimpArgs false
namespace Go.Proofs
open Go.Shelf
def Tryz.lays137_ren : Go.Shelf.Ren := ⟨fun | 137 => 114 | 217 => 136 | 266 => 147 | n => n, fun | 9 => 9 | 5 => 5 | 3 => 3 | n => n, fun | n => n⟩
theorem Tryz.lays137 : Go.Proofs.Lays.n137 Tryz.prog Tryz.lays137_ren := {
  mixed := by kernel_rfl
  f137 := Tryz.func114.trans (congrArg some (by kernel_rfl))
  f217 := Tryz.func136.trans (congrArg some (by kernel_rfl))
  f266 := Tryz.func147.trans (congrArg some (by kernel_rfl))
  t3 := Tryz.underlying3
  a3 := Tryz.isAgg3
  z3 := Tryz.sizeOf3
  v3 := Tryz.zeroValue3
  t5 := Tryz.underlying5
  a5 := Tryz.isAgg5
  z5 := Tryz.sizeOf5
  v5 := Tryz.zeroValue5
  t9 := Tryz.underlying9
  a9 := Tryz.isAgg9
  z9 := Tryz.sizeOf9
  v9 := Tryz.zeroValue9 }
open Go.RowKit in
theorem Tryz.strings_IndexByte (s : ByteArray) (c : Int) (w : World) :
    Calls Tryz.prog 114 #[.string s, .int .u8 c] w fun e w' => e = .returned (.int .i64 (Lib.indexByte s.data.toList c.toNat.toUInt8)) ∧ w' = w := Any.strings_IndexByte Tryz.lays137 s c w
def Tryz.lays99_ren : Go.Shelf.Ren := ⟨fun | 99 => 105 | 206 => 132 | n => n, fun | 9 => 9 | 4 => 4 | 3 => 3 | n => n, fun | n => n⟩
theorem Tryz.lays99 : Go.Proofs.Lays.n99 Tryz.prog Tryz.lays99_ren := {
  mixed := by kernel_rfl
  f99 := Tryz.func105.trans (congrArg some (by kernel_rfl))
  f206 := Tryz.func132.trans (congrArg some (by kernel_rfl))
  t3 := Tryz.underlying3
  a3 := Tryz.isAgg3
  z3 := Tryz.sizeOf3
  v3 := Tryz.zeroValue3
  t4 := Tryz.underlying4
  a4 := Tryz.isAgg4
  z4 := Tryz.sizeOf4
  v4 := Tryz.zeroValue4
  t9 := Tryz.underlying9
  a9 := Tryz.isAgg9
  z9 := Tryz.sizeOf9
  v9 := Tryz.zeroValue9 }
open Go.RowKit Go.Lib in
theorem Tryz.strings_HasPrefix (s p : ByteArray) (w : World) :
    Calls Tryz.prog 105 #[.string s, .string p] w fun e w' => e = .returned (.bool (Lib.hasPrefix s.data.toList p.data.toList)) ∧ w' = w := Any.strings_HasPrefix Tryz.lays99 s p w
def Tryz.lays157_ren : Go.Shelf.Ren := ⟨fun | 157 => 134 | 229 => 145 | 199 => 146 | 261 => 149 | 311 => 150 | 312 => 151 | n => n, fun | 9 => 9 | 31 => 183 | 3 => 3 | 5 => 5 | 4 => 4 | 119 => 212 | 0 => 0 | 40 => 214 | 152 => 217 | 21 => 21 | 154 => 219 | 51 => 199 | 141 => 221 | 196 => 225 | 193 => 222 | 198 => 228 | 49 => 226 | 194 => 223 | 201 => 231 | 226 => 233 | 46 => 133 | 227 => 234 | n => n, fun | 0 => 1 | 6 => 2 | n => n⟩
theorem Tryz.lays157 : Go.Proofs.Lays.n157 Tryz.prog Tryz.lays157_ren := {
  mixed := by kernel_rfl
  f157 := Tryz.func134.trans (congrArg some (by kernel_rfl))
  f199 := Tryz.func146.trans (congrArg some (by kernel_rfl))
  f229 := Tryz.func145.trans (congrArg some (by kernel_rfl))
  f261 := Tryz.func149.trans (congrArg some (by kernel_rfl))
  f311 := Tryz.func150.trans (congrArg some (by kernel_rfl))
  f312 := Tryz.func151.trans (congrArg some (by kernel_rfl))
  t0 := Tryz.underlying0
  a0 := Tryz.isAgg0
  z0 := Tryz.sizeOf0
  v0 := Tryz.zeroValue0
  t3 := Tryz.underlying3
  a3 := Tryz.isAgg3
  z3 := Tryz.sizeOf3
  v3 := Tryz.zeroValue3
  t4 := Tryz.underlying4
  a4 := Tryz.isAgg4
  z4 := Tryz.sizeOf4
  v4 := Tryz.zeroValue4
  t5 := Tryz.underlying5
  a5 := Tryz.isAgg5
  z5 := Tryz.sizeOf5
  v5 := Tryz.zeroValue5
  t9 := Tryz.underlying9
  a9 := Tryz.isAgg9
  z9 := Tryz.sizeOf9
  v9 := Tryz.zeroValue9
  t21 := Tryz.underlying21
  a21 := Tryz.isAgg21
  z21 := Tryz.sizeOf21
  v21 := Tryz.zeroValue21
  t31 := Tryz.underlying183
  a31 := Tryz.isAgg183
  z31 := Tryz.sizeOf183
  v31 := Tryz.zeroValue183
  t40 := Tryz.underlying214
  a40 := Tryz.isAgg214
  z40 := Tryz.sizeOf214
  v40 := Tryz.zeroValue214
  t46 := Tryz.underlying133
  a46 := Tryz.isAgg133
  z46 := Tryz.sizeOf133
  v46 := Tryz.zeroValue133
  t49 := Tryz.underlying226
  a49 := Tryz.isAgg226
  z49 := Tryz.sizeOf226
  v49 := Tryz.zeroValue226
  t51 := Tryz.underlying199
  a51 := Tryz.isAgg199
  z51 := Tryz.sizeOf199
  v51 := Tryz.zeroValue199
  t119 := Tryz.underlying212
  a119 := Tryz.isAgg212
  z119 := Tryz.sizeOf212
  t141 := Tryz.underlying221
  a141 := Tryz.isAgg221
  z141 := Tryz.sizeOf221
  v141 := Tryz.zeroValue221
  t152 := Tryz.underlying217
  a152 := Tryz.isAgg217
  z152 := Tryz.sizeOf217
  v152 := Tryz.zeroValue217
  t154 := Tryz.underlying219
  a154 := Tryz.isAgg219
  z154 := Tryz.sizeOf219
  v154 := Tryz.zeroValue219
  t193 := Tryz.underlying222
  a193 := Tryz.isAgg222
  z193 := Tryz.sizeOf222
  v193 := Tryz.zeroValue222
  t194 := Tryz.underlying223
  a194 := Tryz.isAgg223
  z194 := Tryz.sizeOf223
  v194 := Tryz.zeroValue223
  t196 := Tryz.underlying225
  a196 := Tryz.isAgg225
  z196 := Tryz.sizeOf225
  v196 := Tryz.zeroValue225
  t198 := Tryz.underlying228
  a198 := Tryz.isAgg228
  z198 := Tryz.sizeOf228
  v198 := Tryz.zeroValue228
  t201 := Tryz.underlying231
  a201 := Tryz.isAgg231
  z201 := Tryz.sizeOf231
  v201 := Tryz.zeroValue231
  t226 := Tryz.underlying233
  a226 := Tryz.isAgg233
  z226 := Tryz.sizeOf233
  v226 := Tryz.zeroValue233
  t227 := Tryz.underlying234
  a227 := Tryz.isAgg234
  z227 := Tryz.sizeOf234
  v227 := Tryz.zeroValue234
  g0 := by kernel_rfl
  g6 := by kernel_rfl }
open Go.RowKit Go.Lib in
theorem Tryz.strings_Fields (s : ByteArray) (w : World) (hs : s.size < 4294967281) (hascii : ∀ (j : Nat) b, s.data.toList[j]? = some b → b.toNat < 128) (htab : Lib.TabIs Tryz.prog w "strings.asciiSpace" .u8 Lib.asciiSpaceTab) :
    Calls Tryz.prog 134 #[.string s] w fun e w' =>
      e = .returned (.slice (some ⟨w.heap.size, 0, none⟩) (Lib.fields s.data.toList).length (Lib.fields s.data.toList).length) ∧ w' = w.alloc (.cells ((Lib.fields s.data.toList).map fun l => Value.string ⟨l.toArray⟩).toArray 9) := Any.strings_Fields Tryz.lays157 (by kernel_rfl) (by kernel_rfl) s w hs hascii htab
def Tryz.lays110_ren : Go.Shelf.Ren := ⟨fun | 110 => 110 | 109 => 133 | n => n, fun | 31 => 183 | 9 => 9 | 4 => 4 | 3 => 3 | 0 => 0 | n => n, fun | n => n⟩
theorem Tryz.lays110 : Go.Proofs.Lays.n110 Tryz.prog Tryz.lays110_ren := {
  mixed := by kernel_rfl
  f109 := Tryz.func133.trans (congrArg some (by kernel_rfl))
  f110 := Tryz.func110.trans (congrArg some (by kernel_rfl))
  t0 := Tryz.underlying0
  a0 := Tryz.isAgg0
  z0 := Tryz.sizeOf0
  v0 := Tryz.zeroValue0
  t3 := Tryz.underlying3
  a3 := Tryz.isAgg3
  z3 := Tryz.sizeOf3
  v3 := Tryz.zeroValue3
  t4 := Tryz.underlying4
  a4 := Tryz.isAgg4
  z4 := Tryz.sizeOf4
  v4 := Tryz.zeroValue4
  t9 := Tryz.underlying9
  a9 := Tryz.isAgg9
  z9 := Tryz.sizeOf9
  v9 := Tryz.zeroValue9
  t31 := Tryz.underlying183
  a31 := Tryz.isAgg183
  z31 := Tryz.sizeOf183
  v31 := Tryz.zeroValue183 }
open Go.Lib in
theorem Tryz.slices_Contains_string (b off n c : Nat) (zs : List ByteArray) (x : ByteArray) (w : World) (hz : n ≤ zs.length) (hbig : n ≤ 9223372036854775807) (hc : ∀ j, j < zs.length → w.cell? ⟨b, off + j, none⟩ = some (.string (zs.getD j ByteArray.empty))) :
    Calls Tryz.prog 110 #[.slice (some ⟨b, off, none⟩) n c, .string x] w fun e w' => e = .returned (.bool (Lib.containsS (zs.take n) x)) ∧ w' = w := Any.slices_Contains_string Tryz.lays110 b off n c zs x w hz hbig hc
end Go.Proofs
