/-
 DERIVED: THE SHELF's CONTRACTS AT THIS DUMP, IN PLAIN WORDS (tools/lay-plain.mjs out of 'TryzShelf.lean', which tools/lay-shelf.mjs wrote): THE SAME DECLARATIONS UNDER THE SAME NAMES: 'import', 'namespace', 'open', 'def', 'theorem' AND NOTHING ELSE: no command of the shelf's: FOR A HAND-IN. Each laying: the table of numbers ('.._ren') and one theorem, a field a fact of the dump's own or the kernel's comparison; each contract: ONE APPLICATION.
-/
import Derived.Shelf.Sort.Plain
import Derived.Ground.Names2Prog
import Derived.Shelf.Slices.CompactI
import Derived.Shelf.Slices.In.SortNone
import Derived.Test.YtkjllcmpjghmkaaGreatDoorProg
namespace Go.Proofs
open Go.Shelf
def Tryz.lays189_ren : Go.Shelf.Ren := ⟨fun | 189 => 64 | 125 => 111 | 257 => 110 | 128 => 146 | 129 => 147 | 294 => 137 | 295 => 138 | 296 => 139 | 297 => 140 | 298 => 141 | 299 => 142 | 216 => 143 | 300 => 144 | 301 => 145 | 328 => 170 | 329 => 171 | 330 => 172 | 331 => 173 | 332 => 174 | 215 => 175 | 343 => 185 | n => n, fun | 28 => 29 | 3 => 3 | 46 => 193 | 0 => 0 | 51 => 236 | 53 => 238 | 4 => 4 | 183 => 230 | 182 => 229 | 131 => 99 | 5 => 5 | 9 => 9 | 218 => 255 | 222 => 259 | 228 => 269 | 229 => 270 | n => n, fun | n => n⟩
theorem Tryz.lays189 : Go.Proofs.Lays.n189 Tryz.prog Tryz.lays189_ren := {
 mixed := by kernel_rfl
 f125 := Tryz.func111.trans (congrArg some (by kernel_rfl))
 f128 := Tryz.func146.trans (congrArg some (by kernel_rfl))
 f129 := Tryz.func147.trans (congrArg some (by kernel_rfl))
 f189 := Tryz.func64.trans (congrArg some (by kernel_rfl))
 f215 := Tryz.func175.trans (congrArg some (by kernel_rfl))
 f216 := Tryz.func143.trans (congrArg some (by kernel_rfl))
 f257 := Tryz.func110.trans (congrArg some (by kernel_rfl))
 f294 := Tryz.func137.trans (congrArg some (by kernel_rfl))
 f295 := Tryz.func138.trans (congrArg some (by kernel_rfl))
 f296 := Tryz.func139.trans (congrArg some (by kernel_rfl))
 f297 := Tryz.func140.trans (congrArg some (by kernel_rfl))
 f298 := Tryz.func141.trans (congrArg some (by kernel_rfl))
 f299 := Tryz.func142.trans (congrArg some (by kernel_rfl))
 f300 := Tryz.func144.trans (congrArg some (by kernel_rfl))
 f301 := Tryz.func145.trans (congrArg some (by kernel_rfl))
 f328 := Tryz.func170.trans (congrArg some (by kernel_rfl))
 f329 := Tryz.func171.trans (congrArg some (by kernel_rfl))
 f330 := Tryz.func172.trans (congrArg some (by kernel_rfl))
 f331 := Tryz.func173.trans (congrArg some (by kernel_rfl))
 f332 := Tryz.func174.trans (congrArg some (by kernel_rfl))
 f343 := Tryz.func185.trans (congrArg some (by kernel_rfl))
 t0 := Tryz.underlying0
 a0 := Tryz.isAgg0
 z0 := Tryz.sizeOf0
 v0 := Tryz.zeroValue0
 t3 := Tryz.underlying3
 a3 := Tryz.isAgg3
 z3 := Tryz.sizeOf3
 v3 := Tryz.zeroValue3
 t4 := Tryz.underlying4
 a4 := Tryz.isAgg4
 z4 := Tryz.sizeOf4
 v4 := Tryz.zeroValue4
 t5 := Tryz.underlying5
 a5 := Tryz.isAgg5
 z5 := Tryz.sizeOf5
 v5 := Tryz.zeroValue5
 t9 := Tryz.underlying9
 a9 := Tryz.isAgg9
 z9 := Tryz.sizeOf9
 v9 := Tryz.zeroValue9
 t28 := Tryz.underlying29
 a28 := Tryz.isAgg29
 z28 := Tryz.sizeOf29
 v28 := Tryz.zeroValue29
 t46 := Tryz.underlying193
 a46 := Tryz.isAgg193
 z46 := Tryz.sizeOf193
 v46 := Tryz.zeroValue193
 t51 := Tryz.underlying236
 a51 := Tryz.isAgg236
 z51 := Tryz.sizeOf236
 v51 := Tryz.zeroValue236
 t53 := Tryz.underlying238
 a53 := Tryz.isAgg238
 z53 := Tryz.sizeOf238
 v53 := Tryz.zeroValue238
 t131 := Tryz.underlying99
 a131 := Tryz.isAgg99
 z131 := Tryz.sizeOf99
 v131 := Tryz.zeroValue99
 t182 := Tryz.underlying229
 a182 := Tryz.isAgg229
 z182 := Tryz.sizeOf229
 v182 := Tryz.zeroValue229
 t183 := Tryz.underlying230
 a183 := Tryz.isAgg230
 z183 := Tryz.sizeOf230
 v183 := Tryz.zeroValue230
 t218 := Tryz.underlying255
 a218 := Tryz.isAgg255
 z218 := Tryz.sizeOf255
 v218 := Tryz.zeroValue255
 t222 := Tryz.underlying259
 a222 := Tryz.isAgg259
 z222 := Tryz.sizeOf259
 v222 := Tryz.zeroValue259
 t228 := Tryz.underlying269
 a228 := Tryz.isAgg269
 z228 := Tryz.sizeOf269
 v228 := Tryz.zeroValue269
 t229 := Tryz.underlying270
 a229 := Tryz.isAgg270
 z229 := Tryz.sizeOf270
 v229 := Tryz.zeroValue270 }
open Go.Sort Go.RowKit in
theorem Tryz.slices_Sort_int (blk off cap : Nat) (zs : List Int) (w : World) (hH : Holds (Value.int .i64) w blk off zs.toArray) (hblk : blk < w.heap.size) (hsz : zs.length < 4611686018427387904) :
  Calls Tryz.prog 64 #[.slice (some ⟨blk, off, none⟩) zs.length cap] w fun e w' =>
   e = .returned (.tuple #[]) ∧ ∃ n os, w' = grow (putRow (Value.int .i64) (Sort.ahead w n) blk off (zs.mergeSort fun x y => decide (x ≤ y)).toArray) os := Any.slices_Sort_int Tryz.lays189 blk off cap zs w hH hblk hsz
def Tryz.laysNm220_ren : Go.Shelf.Ren := ⟨fun | 20 => 65 | n => n, fun | 22 => 29 | 3 => 3 | 4 => 4 | 0 => 0 | n => n, fun | n => n⟩
theorem Tryz.laysNm220 : Go.Proofs.Lays2.n20 Tryz.prog Tryz.laysNm220_ren := {
 mixed := by kernel_rfl
 f20 := Tryz.func65.trans (congrArg some (by kernel_rfl))
 t0 := Tryz.underlying0
 a0 := Tryz.isAgg0
 z0 := Tryz.sizeOf0
 v0 := Tryz.zeroValue0
 t3 := Tryz.underlying3
 a3 := Tryz.isAgg3
 z3 := Tryz.sizeOf3
 v3 := Tryz.zeroValue3
 t4 := Tryz.underlying4
 a4 := Tryz.isAgg4
 z4 := Tryz.sizeOf4
 v4 := Tryz.zeroValue4
 t22 := Tryz.underlying29
 a22 := Tryz.isAgg29
 z22 := Tryz.sizeOf29
 v22 := Tryz.zeroValue29
 i3 := by kernel_rfl }
open Go.RowKit Go.Lib Go.Sort in
theorem Tryz.slices_Compact_int (blk off cap : Nat) (zs : List Int) (w : World) (hH : Holds (Value.int .i64) w blk off zs.toArray) (hsz : zs.length ≤ 9223372036854775807) (hcap : zs.length ≤ cap) :
  Calls Tryz.prog 65 #[.slice (some ⟨blk, off, none⟩) zs.length cap] w fun e w' => e = .returned (.slice (some ⟨blk, off, none⟩) (Lib.compact zs).length cap) ∧ ∃ q, w' = putRow (Value.int .i64) (Sort.ahead w q) blk off (Lib.compact zs ++ List.replicate (zs.length - (Lib.compact zs).length) 0).toArray := Any.slices_Compact_int Tryz.laysNm220 blk off cap zs w hH hsz hcap
open Go.RowKit Go.Lib Go.Sort in
theorem Tryz.slices_Compact_int_empty (a : Option Addr) (cap : Nat) (w : World) :
  Calls Tryz.prog 65 #[.slice a 0 cap] w fun e w' => e = .returned (.slice a 0 cap) ∧ w' = w := Any.slices_Compact_int_empty Tryz.laysNm220 a cap w
open Go.RowKit Go.Sort in
theorem Tryz.slices_Sort_int_none (p : Option Addr) (cap : Nat) (w : World) :
  Calls Tryz.prog 64 #[.slice p 0 cap] w fun e w' => e = .returned (.tuple #[]) ∧ w' = w := Any.slices_Sort_int_none Tryz.lays189 p cap w
end Go.Proofs
