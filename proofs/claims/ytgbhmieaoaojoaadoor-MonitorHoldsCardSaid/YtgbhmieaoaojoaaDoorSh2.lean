/-
 DERIVED: THE SHELF's CONTRACTS AT THIS DUMP, IN PLAIN WORDS (tools/lay-plain.mjs out of 'TrydShelf.lean', which tools/lay-shelf.mjs wrote): THE SAME DECLARATIONS UNDER THE SAME NAMES: 'import', 'namespace', 'open', 'def', 'theorem' AND NOTHING ELSE: no command of the shelf's: FOR A HAND-IN. Each laying: the table of numbers ('.._ren') and one theorem, a field a fact of the dump's own or the kernel's comparison; each contract: ONE APPLICATION.
-/
import Derived.Shelf.Sort.Plain
import Derived.Ground.Names2Prog
import Derived.Shelf.Slices.CompactI
import Derived.Shelf.Slices.In.SortNone
import Derived.Ground.SlsfProg
import Derived.Shelf.SlSortCmp.Whole1
import Derived.Test.YtgbhmieaoaojoaaDoorProg
namespace Go.Proofs
open Go.Shelf
def Tryd.lays189_ren : Go.Shelf.Ren := ⟨fun | 189 => 72 | 125 => 82 | 257 => 91 | 128 => 104 | 129 => 105 | 294 => 112 | 295 => 113 | 296 => 114 | 297 => 115 | 298 => 116 | 299 => 117 | 216 => 118 | 300 => 119 | 301 => 120 | 328 => 130 | 329 => 124 | 330 => 125 | 331 => 131 | 332 => 132 | 215 => 83 | 343 => 137 | n => n, fun | 28 => 29 | 3 => 3 | 46 => 139 | 0 => 0 | 51 => 111 | 53 => 158 | 4 => 4 | 183 => 151 | 182 => 150 | 131 => 99 | 5 => 5 | 9 => 9 | 218 => 179 | 222 => 183 | 228 => 188 | 229 => 189 | n => n, fun | n => n⟩
theorem Tryd.lays189 : Go.Proofs.Lays.n189 Tryd.prog Tryd.lays189_ren := {
 mixed := by kernel_rfl
 f125 := Tryd.func82.trans (congrArg some (by kernel_rfl))
 f128 := Tryd.func104.trans (congrArg some (by kernel_rfl))
 f129 := Tryd.func105.trans (congrArg some (by kernel_rfl))
 f189 := Tryd.func72.trans (congrArg some (by kernel_rfl))
 f215 := Tryd.func83.trans (congrArg some (by kernel_rfl))
 f216 := Tryd.func118.trans (congrArg some (by kernel_rfl))
 f257 := Tryd.func91.trans (congrArg some (by kernel_rfl))
 f294 := Tryd.func112.trans (congrArg some (by kernel_rfl))
 f295 := Tryd.func113.trans (congrArg some (by kernel_rfl))
 f296 := Tryd.func114.trans (congrArg some (by kernel_rfl))
 f297 := Tryd.func115.trans (congrArg some (by kernel_rfl))
 f298 := Tryd.func116.trans (congrArg some (by kernel_rfl))
 f299 := Tryd.func117.trans (congrArg some (by kernel_rfl))
 f300 := Tryd.func119.trans (congrArg some (by kernel_rfl))
 f301 := Tryd.func120.trans (congrArg some (by kernel_rfl))
 f328 := Tryd.func130.trans (congrArg some (by kernel_rfl))
 f329 := Tryd.func124.trans (congrArg some (by kernel_rfl))
 f330 := Tryd.func125.trans (congrArg some (by kernel_rfl))
 f331 := Tryd.func131.trans (congrArg some (by kernel_rfl))
 f332 := Tryd.func132.trans (congrArg some (by kernel_rfl))
 f343 := Tryd.func137.trans (congrArg some (by kernel_rfl))
 t0 := Tryd.underlying0
 a0 := Tryd.isAgg0
 z0 := Tryd.sizeOf0
 v0 := Tryd.zeroValue0
 t3 := Tryd.underlying3
 a3 := Tryd.isAgg3
 z3 := Tryd.sizeOf3
 v3 := Tryd.zeroValue3
 t4 := Tryd.underlying4
 a4 := Tryd.isAgg4
 z4 := Tryd.sizeOf4
 v4 := Tryd.zeroValue4
 t5 := Tryd.underlying5
 a5 := Tryd.isAgg5
 z5 := Tryd.sizeOf5
 v5 := Tryd.zeroValue5
 t9 := Tryd.underlying9
 a9 := Tryd.isAgg9
 z9 := Tryd.sizeOf9
 v9 := Tryd.zeroValue9
 t28 := Tryd.underlying29
 a28 := Tryd.isAgg29
 z28 := Tryd.sizeOf29
 v28 := Tryd.zeroValue29
 t46 := Tryd.underlying139
 a46 := Tryd.isAgg139
 z46 := Tryd.sizeOf139
 v46 := Tryd.zeroValue139
 t51 := Tryd.underlying111
 a51 := Tryd.isAgg111
 z51 := Tryd.sizeOf111
 v51 := Tryd.zeroValue111
 t53 := Tryd.underlying158
 a53 := Tryd.isAgg158
 z53 := Tryd.sizeOf158
 v53 := Tryd.zeroValue158
 t131 := Tryd.underlying99
 a131 := Tryd.isAgg99
 z131 := Tryd.sizeOf99
 v131 := Tryd.zeroValue99
 t182 := Tryd.underlying150
 a182 := Tryd.isAgg150
 z182 := Tryd.sizeOf150
 v182 := Tryd.zeroValue150
 t183 := Tryd.underlying151
 a183 := Tryd.isAgg151
 z183 := Tryd.sizeOf151
 v183 := Tryd.zeroValue151
 t218 := Tryd.underlying179
 a218 := Tryd.isAgg179
 z218 := Tryd.sizeOf179
 v218 := Tryd.zeroValue179
 t222 := Tryd.underlying183
 a222 := Tryd.isAgg183
 z222 := Tryd.sizeOf183
 v222 := Tryd.zeroValue183
 t228 := Tryd.underlying188
 a228 := Tryd.isAgg188
 z228 := Tryd.sizeOf188
 v228 := Tryd.zeroValue188
 t229 := Tryd.underlying189
 a229 := Tryd.isAgg189
 z229 := Tryd.sizeOf189
 v229 := Tryd.zeroValue189 }
open Go.Sort Go.RowKit in
theorem Tryd.slices_Sort_int (blk off cap : Nat) (zs : List Int) (w : World) (hH : Holds (Value.int .i64) w blk off zs.toArray) (hblk : blk < w.heap.size) (hsz : zs.length < 4611686018427387904) :
  Calls Tryd.prog 72 #[.slice (some ⟨blk, off, none⟩) zs.length cap] w fun e w' =>
   e = .returned (.tuple #[]) ∧ ∃ n os, w' = grow (putRow (Value.int .i64) (Sort.ahead w n) blk off (zs.mergeSort fun x y => decide (x ≤ y)).toArray) os := Any.slices_Sort_int Tryd.lays189 blk off cap zs w hH hblk hsz
def Tryd.laysNm220_ren : Go.Shelf.Ren := ⟨fun | 20 => 73 | n => n, fun | 22 => 29 | 3 => 3 | 4 => 4 | 0 => 0 | n => n, fun | n => n⟩
theorem Tryd.laysNm220 : Go.Proofs.Lays2.n20 Tryd.prog Tryd.laysNm220_ren := {
 mixed := by kernel_rfl
 f20 := Tryd.func73.trans (congrArg some (by kernel_rfl))
 t0 := Tryd.underlying0
 a0 := Tryd.isAgg0
 z0 := Tryd.sizeOf0
 v0 := Tryd.zeroValue0
 t3 := Tryd.underlying3
 a3 := Tryd.isAgg3
 z3 := Tryd.sizeOf3
 v3 := Tryd.zeroValue3
 t4 := Tryd.underlying4
 a4 := Tryd.isAgg4
 z4 := Tryd.sizeOf4
 v4 := Tryd.zeroValue4
 t22 := Tryd.underlying29
 a22 := Tryd.isAgg29
 z22 := Tryd.sizeOf29
 v22 := Tryd.zeroValue29
 i3 := by kernel_rfl }
open Go.RowKit Go.Lib Go.Sort in
theorem Tryd.slices_Compact_int (blk off cap : Nat) (zs : List Int) (w : World) (hH : Holds (Value.int .i64) w blk off zs.toArray) (hsz : zs.length ≤ 9223372036854775807) (hcap : zs.length ≤ cap) :
  Calls Tryd.prog 73 #[.slice (some ⟨blk, off, none⟩) zs.length cap] w fun e w' => e = .returned (.slice (some ⟨blk, off, none⟩) (Lib.compact zs).length cap) ∧ ∃ q, w' = putRow (Value.int .i64) (Sort.ahead w q) blk off (Lib.compact zs ++ List.replicate (zs.length - (Lib.compact zs).length) 0).toArray := Any.slices_Compact_int Tryd.laysNm220 blk off cap zs w hH hsz hcap
open Go.RowKit Go.Lib Go.Sort in
theorem Tryd.slices_Compact_int_empty (a : Option Addr) (cap : Nat) (w : World) :
  Calls Tryd.prog 73 #[.slice a 0 cap] w fun e w' => e = .returned (.slice a 0 cap) ∧ w' = w := Any.slices_Compact_int_empty Tryd.laysNm220 a cap w
open Go.RowKit Go.Sort in
theorem Tryd.slices_Sort_int_none (p : Option Addr) (cap : Nat) (w : World) :
  Calls Tryd.prog 72 #[.slice p 0 cap] w fun e w' => e = .returned (.tuple #[]) ∧ w' = w := Any.slices_Sort_int_none Tryd.lays189 p cap w
end Go.Proofs
