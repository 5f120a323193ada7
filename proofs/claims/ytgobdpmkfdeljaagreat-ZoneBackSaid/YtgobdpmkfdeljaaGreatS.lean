/- The library's contracts of sorting, turning and striking repeats out of a slice of numbers, at this seat's program, as the kit's tool lays them. No condition but those named in each. -/
import Derived.Shelf.Small.Bits
import Derived.Shelf.Small.Strs
import Derived.Shelf.Small.Wraps
import Derived.Shelf.Strconv.Itoa0
import Derived.Shelf.Strings.Search1
import Derived.Shelf.Sort.Plain
import Derived.Shelf.Slices.Turned
import Derived.Shelf.Slices.Reverse
import Derived.Shelf.Slices.Equal
import Derived.Ground.Names2Prog
import Derived.Shelf.Slices.Clone
import Derived.Shelf.Slices.CompactI
import Derived.Shelf.Slices.SearchI
import Derived.Shelf.Slices.Cells
import Derived.Shelf.Slices.In.SortNone
import Derived.Shelf.Slices.Empties2
import Derived.Ground.SlgnProg
import Derived.Shelf.SlicesG.Turned
import Derived.Shelf.SlicesG.CompactI
import Derived.Shelf.SlicesG.SearchI
import Derived.Shelf.SlicesG.Cells
import Derived.Shelf.SlicesE.Reverse
import Derived.Shelf.SlicesE.Clone
import Derived.Test.YtgobdpmkfdeljaaGreatProg
namespace Go.Proofs
open Go.Shelf
def Tryz.lays189_ren : Go.Shelf.Ren := ⟨fun | 189 => 74 | 125 => 122 | 257 => 121 | 128 => 167 | 129 => 168 | 294 => 158 | 295 => 159 | 296 => 160 | 297 => 161 | 298 => 162 | 299 => 163 | 216 => 164 | 300 => 165 | 301 => 166 | 328 => 200 | 329 => 201 | 330 => 202 | 331 => 203 | 332 => 204 | 215 => 205 | 343 => 225 | n => n, fun | 28 => 44 | 3 => 3 | 46 => 153 | 0 => 0 | 51 => 181 | 53 => 183 | 4 => 4 | 183 => 175 | 182 => 174 | 131 => 178 | 5 => 5 | 9 => 9 | 218 => 205 | 222 => 209 | 228 => 221 | 229 => 125 | n => n, fun | n => n⟩
theorem Tryz.lays189 : Go.Proofs.Lays.n189 Tryz.prog Tryz.lays189_ren := {
  mixed := by kernel_rfl
  f125 := Tryz.func122.trans (congrArg some (by kernel_rfl))
  f128 := Tryz.func167.trans (congrArg some (by kernel_rfl))
  f129 := Tryz.func168.trans (congrArg some (by kernel_rfl))
  f189 := Tryz.func74.trans (congrArg some (by kernel_rfl))
  f215 := Tryz.func205.trans (congrArg some (by kernel_rfl))
  f216 := Tryz.func164.trans (congrArg some (by kernel_rfl))
  f257 := Tryz.func121.trans (congrArg some (by kernel_rfl))
  f294 := Tryz.func158.trans (congrArg some (by kernel_rfl))
  f295 := Tryz.func159.trans (congrArg some (by kernel_rfl))
  f296 := Tryz.func160.trans (congrArg some (by kernel_rfl))
  f297 := Tryz.func161.trans (congrArg some (by kernel_rfl))
  f298 := Tryz.func162.trans (congrArg some (by kernel_rfl))
  f299 := Tryz.func163.trans (congrArg some (by kernel_rfl))
  f300 := Tryz.func165.trans (congrArg some (by kernel_rfl))
  f301 := Tryz.func166.trans (congrArg some (by kernel_rfl))
  f328 := Tryz.func200.trans (congrArg some (by kernel_rfl))
  f329 := Tryz.func201.trans (congrArg some (by kernel_rfl))
  f330 := Tryz.func202.trans (congrArg some (by kernel_rfl))
  f331 := Tryz.func203.trans (congrArg some (by kernel_rfl))
  f332 := Tryz.func204.trans (congrArg some (by kernel_rfl))
  f343 := Tryz.func225.trans (congrArg some (by kernel_rfl))
  t0 := Tryz.underlying0
  a0 := Tryz.isAgg0
  z0 := Tryz.sizeOf0
  v0 := Tryz.zeroValue0
  t3 := Tryz.underlying3
  a3 := Tryz.isAgg3
  z3 := Tryz.sizeOf3
  v3 := Tryz.zeroValue3
  t4 := Tryz.underlying4
  a4 := Tryz.isAgg4
  z4 := Tryz.sizeOf4
  v4 := Tryz.zeroValue4
  t5 := Tryz.underlying5
  a5 := Tryz.isAgg5
  z5 := Tryz.sizeOf5
  v5 := Tryz.zeroValue5
  t9 := Tryz.underlying9
  a9 := Tryz.isAgg9
  z9 := Tryz.sizeOf9
  v9 := Tryz.zeroValue9
  t28 := Tryz.underlying44
  a28 := Tryz.isAgg44
  z28 := Tryz.sizeOf44
  v28 := Tryz.zeroValue44
  t46 := Tryz.underlying153
  a46 := Tryz.isAgg153
  z46 := Tryz.sizeOf153
  v46 := Tryz.zeroValue153
  t51 := Tryz.underlying181
  a51 := Tryz.isAgg181
  z51 := Tryz.sizeOf181
  v51 := Tryz.zeroValue181
  t53 := Tryz.underlying183
  a53 := Tryz.isAgg183
  z53 := Tryz.sizeOf183
  v53 := Tryz.zeroValue183
  t131 := Tryz.underlying178
  a131 := Tryz.isAgg178
  z131 := Tryz.sizeOf178
  v131 := Tryz.zeroValue178
  t182 := Tryz.underlying174
  a182 := Tryz.isAgg174
  z182 := Tryz.sizeOf174
  v182 := Tryz.zeroValue174
  t183 := Tryz.underlying175
  a183 := Tryz.isAgg175
  z183 := Tryz.sizeOf175
  v183 := Tryz.zeroValue175
  t218 := Tryz.underlying205
  a218 := Tryz.isAgg205
  z218 := Tryz.sizeOf205
  v218 := Tryz.zeroValue205
  t222 := Tryz.underlying209
  a222 := Tryz.isAgg209
  z222 := Tryz.sizeOf209
  v222 := Tryz.zeroValue209
  t228 := Tryz.underlying221
  a228 := Tryz.isAgg221
  z228 := Tryz.sizeOf221
  v228 := Tryz.zeroValue221
  t229 := Tryz.underlying125
  a229 := Tryz.isAgg125
  z229 := Tryz.sizeOf125
  v229 := Tryz.zeroValue125 }
open Go.Sort Go.RowKit in
theorem Tryz.slices_Sort_int (blk off cap : Nat) (zs : List Int) (w : World) (hH : Holds (Value.int .i64) w blk off zs.toArray) (hblk : blk < w.heap.size) (hsz : zs.length < 4611686018427387904) :
    Calls Tryz.prog 74 #[.slice (some ⟨blk, off, none⟩) zs.length cap] w fun e w' =>
      e = .returned (.tuple #[]) ∧ ∃ n os, w' = grow (putRow (Value.int .i64) (Sort.ahead w n) blk off (zs.mergeSort fun x y => decide (x ≤ y)).toArray) os := Any.slices_Sort_int Tryz.lays189 blk off cap zs w hH hblk hsz
def Tryz.lays112_ren : Go.Shelf.Ren := ⟨fun | 112 => 46 | n => n, fun | 28 => 44 | 3 => 3 | 4 => 4 | 0 => 0 | n => n, fun | n => n⟩
theorem Tryz.lays112 : Go.Proofs.Lays.n112 Tryz.prog Tryz.lays112_ren := {
  mixed := by kernel_rfl
  f112 := Tryz.func46.trans (congrArg some (by kernel_rfl))
  t0 := Tryz.underlying0
  a0 := Tryz.isAgg0
  z0 := Tryz.sizeOf0
  v0 := Tryz.zeroValue0
  t3 := Tryz.underlying3
  a3 := Tryz.isAgg3
  z3 := Tryz.sizeOf3
  v3 := Tryz.zeroValue3
  t4 := Tryz.underlying4
  a4 := Tryz.isAgg4
  z4 := Tryz.sizeOf4
  v4 := Tryz.zeroValue4
  t28 := Tryz.underlying44
  a28 := Tryz.isAgg44
  z28 := Tryz.sizeOf44
  v28 := Tryz.zeroValue44 }
open Go.RowKit Go.Lib Go.Sort in
theorem Tryz.slices_Reverse_int (blk off cap : Nat) (zs : List Int) (w : World) (hH : Holds (Value.int .i64) w blk off zs.toArray) (hsz : zs.length ≤ 9223372036854775807) :
    Calls Tryz.prog 46 #[.slice (some ⟨blk, off, none⟩) zs.length cap] w fun e w' => e = .returned (.tuple #[]) ∧ ∃ n, w' = putRow (Value.int .i64) (Sort.ahead w n) blk off zs.reverse.toArray := Any.slices_Reverse_int Tryz.lays112 blk off cap zs w hH hsz
def Tryz.laysNm220_ren : Go.Shelf.Ren := ⟨fun | 20 => 75 | n => n, fun | 22 => 44 | 3 => 3 | 4 => 4 | 0 => 0 | n => n, fun | n => n⟩
theorem Tryz.laysNm220 : Go.Proofs.Lays2.n20 Tryz.prog Tryz.laysNm220_ren := {
  mixed := by kernel_rfl
  f20 := Tryz.func75.trans (congrArg some (by kernel_rfl))
  t0 := Tryz.underlying0
  a0 := Tryz.isAgg0
  z0 := Tryz.sizeOf0
  v0 := Tryz.zeroValue0
  t3 := Tryz.underlying3
  a3 := Tryz.isAgg3
  z3 := Tryz.sizeOf3
  v3 := Tryz.zeroValue3
  t4 := Tryz.underlying4
  a4 := Tryz.isAgg4
  z4 := Tryz.sizeOf4
  v4 := Tryz.zeroValue4
  t22 := Tryz.underlying44
  a22 := Tryz.isAgg44
  z22 := Tryz.sizeOf44
  v22 := Tryz.zeroValue44
  i3 := by kernel_rfl }
open Go.RowKit Go.Lib Go.Sort in
theorem Tryz.slices_Compact_int (blk off cap : Nat) (zs : List Int) (w : World) (hH : Holds (Value.int .i64) w blk off zs.toArray) (hsz : zs.length ≤ 9223372036854775807) (hcap : zs.length ≤ cap) :
    Calls Tryz.prog 75 #[.slice (some ⟨blk, off, none⟩) zs.length cap] w fun e w' => e = .returned (.slice (some ⟨blk, off, none⟩) (Lib.compact zs).length cap) ∧ ∃ q, w' = putRow (Value.int .i64) (Sort.ahead w q) blk off (Lib.compact zs ++ List.replicate (zs.length - (Lib.compact zs).length) 0).toArray := Any.slices_Compact_int Tryz.laysNm220 blk off cap zs w hH hsz hcap
end Go.Proofs
