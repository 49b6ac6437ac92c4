/-
 DERIVED: THE SHELF's CONTRACTS AT THIS DUMP, IN PLAIN WORDS (tools/lay-plain.mjs out of 'TryzShelf.lean', which tools/lay-shelf.mjs wrote): THE SAME DECLARATIONS UNDER THE SAME NAMES: 'import', 'namespace', 'open', 'def', 'theorem' AND NOTHING ELSE: no command of the shelf's: FOR A HAND-IN. Each laying: the table of numbers ('.._ren') and one theorem, a field a fact of the dump's own or the kernel's comparison; each contract: ONE APPLICATION.
-/
import Derived.Shelf.Sort.Plain
import Derived.Ground.Names2Prog
import Derived.Shelf.Slices.CompactI
import Derived.Shelf.Slices.In.SortNone
import Derived.Ground.SlsfProg
import Derived.Shelf.SlSortCmp.Whole1
import Derived.Test.YtgbhmieaoaojoaaGreatDoorProg
namespace Go.Proofs
open Go.Shelf
def Tryz.lays189_ren : Go.Shelf.Ren := ⟨fun | 189 => 81 | 125 => 127 | 257 => 126 | 128 => 160 | 129 => 161 | 294 => 152 | 295 => 153 | 296 => 154 | 297 => 155 | 298 => 156 | 299 => 157 | 216 => 146 | 300 => 158 | 301 => 159 | 328 => 184 | 329 => 185 | 330 => 186 | 331 => 187 | 332 => 188 | 215 => 181 | 343 => 197 | n => n, fun | 28 => 29 | 3 => 3 | 46 => 210 | 0 => 0 | 51 => 251 | 53 => 253 | 4 => 4 | 183 => 245 | 182 => 244 | 131 => 105 | 5 => 5 | 9 => 9 | 218 => 269 | 222 => 273 | 228 => 283 | 229 => 284 | n => n, fun | n => n⟩
theorem Tryz.lays189 : Go.Proofs.Lays.n189 Tryz.prog Tryz.lays189_ren := {
 mixed := by kernel_rfl
 f125 := Tryz.func127.trans (congrArg some (by kernel_rfl))
 f128 := Tryz.func160.trans (congrArg some (by kernel_rfl))
 f129 := Tryz.func161.trans (congrArg some (by kernel_rfl))
 f189 := Tryz.func81.trans (congrArg some (by kernel_rfl))
 f215 := Tryz.func181.trans (congrArg some (by kernel_rfl))
 f216 := Tryz.func146.trans (congrArg some (by kernel_rfl))
 f257 := Tryz.func126.trans (congrArg some (by kernel_rfl))
 f294 := Tryz.func152.trans (congrArg some (by kernel_rfl))
 f295 := Tryz.func153.trans (congrArg some (by kernel_rfl))
 f296 := Tryz.func154.trans (congrArg some (by kernel_rfl))
 f297 := Tryz.func155.trans (congrArg some (by kernel_rfl))
 f298 := Tryz.func156.trans (congrArg some (by kernel_rfl))
 f299 := Tryz.func157.trans (congrArg some (by kernel_rfl))
 f300 := Tryz.func158.trans (congrArg some (by kernel_rfl))
 f301 := Tryz.func159.trans (congrArg some (by kernel_rfl))
 f328 := Tryz.func184.trans (congrArg some (by kernel_rfl))
 f329 := Tryz.func185.trans (congrArg some (by kernel_rfl))
 f330 := Tryz.func186.trans (congrArg some (by kernel_rfl))
 f331 := Tryz.func187.trans (congrArg some (by kernel_rfl))
 f332 := Tryz.func188.trans (congrArg some (by kernel_rfl))
 f343 := Tryz.func197.trans (congrArg some (by kernel_rfl))
 t0 := Tryz.underlying0
 a0 := Tryz.isAgg0
 z0 := Tryz.sizeOf0
 v0 := Tryz.zeroValue0
 t3 := Tryz.underlying3
 a3 := Tryz.isAgg3
 z3 := Tryz.sizeOf3
 v3 := Tryz.zeroValue3
 t4 := Tryz.underlying4
 a4 := Tryz.isAgg4
 z4 := Tryz.sizeOf4
 v4 := Tryz.zeroValue4
 t5 := Tryz.underlying5
 a5 := Tryz.isAgg5
 z5 := Tryz.sizeOf5
 v5 := Tryz.zeroValue5
 t9 := Tryz.underlying9
 a9 := Tryz.isAgg9
 z9 := Tryz.sizeOf9
 v9 := Tryz.zeroValue9
 t28 := Tryz.underlying29
 a28 := Tryz.isAgg29
 z28 := Tryz.sizeOf29
 v28 := Tryz.zeroValue29
 t46 := Tryz.underlying210
 a46 := Tryz.isAgg210
 z46 := Tryz.sizeOf210
 v46 := Tryz.zeroValue210
 t51 := Tryz.underlying251
 a51 := Tryz.isAgg251
 z51 := Tryz.sizeOf251
 v51 := Tryz.zeroValue251
 t53 := Tryz.underlying253
 a53 := Tryz.isAgg253
 z53 := Tryz.sizeOf253
 v53 := Tryz.zeroValue253
 t131 := Tryz.underlying105
 a131 := Tryz.isAgg105
 z131 := Tryz.sizeOf105
 v131 := Tryz.zeroValue105
 t182 := Tryz.underlying244
 a182 := Tryz.isAgg244
 z182 := Tryz.sizeOf244
 v182 := Tryz.zeroValue244
 t183 := Tryz.underlying245
 a183 := Tryz.isAgg245
 z183 := Tryz.sizeOf245
 v183 := Tryz.zeroValue245
 t218 := Tryz.underlying269
 a218 := Tryz.isAgg269
 z218 := Tryz.sizeOf269
 v218 := Tryz.zeroValue269
 t222 := Tryz.underlying273
 a222 := Tryz.isAgg273
 z222 := Tryz.sizeOf273
 v222 := Tryz.zeroValue273
 t228 := Tryz.underlying283
 a228 := Tryz.isAgg283
 z228 := Tryz.sizeOf283
 v228 := Tryz.zeroValue283
 t229 := Tryz.underlying284
 a229 := Tryz.isAgg284
 z229 := Tryz.sizeOf284
 v229 := Tryz.zeroValue284 }
open Go.Sort Go.RowKit in
theorem Tryz.slices_Sort_int (blk off cap : Nat) (zs : List Int) (w : World) (hH : Holds (Value.int .i64) w blk off zs.toArray) (hblk : blk < w.heap.size) (hsz : zs.length < 4611686018427387904) :
  Calls Tryz.prog 81 #[.slice (some ⟨blk, off, none⟩) zs.length cap] w fun e w' =>
   e = .returned (.tuple #[]) ∧ ∃ n os, w' = grow (putRow (Value.int .i64) (Sort.ahead w n) blk off (zs.mergeSort fun x y => decide (x ≤ y)).toArray) os := Any.slices_Sort_int Tryz.lays189 blk off cap zs w hH hblk hsz
def Tryz.laysNm220_ren : Go.Shelf.Ren := ⟨fun | 20 => 82 | n => n, fun | 22 => 29 | 3 => 3 | 4 => 4 | 0 => 0 | n => n, fun | n => n⟩
theorem Tryz.laysNm220 : Go.Proofs.Lays2.n20 Tryz.prog Tryz.laysNm220_ren := {
 mixed := by kernel_rfl
 f20 := Tryz.func82.trans (congrArg some (by kernel_rfl))
 t0 := Tryz.underlying0
 a0 := Tryz.isAgg0
 z0 := Tryz.sizeOf0
 v0 := Tryz.zeroValue0
 t3 := Tryz.underlying3
 a3 := Tryz.isAgg3
 z3 := Tryz.sizeOf3
 v3 := Tryz.zeroValue3
 t4 := Tryz.underlying4
 a4 := Tryz.isAgg4
 z4 := Tryz.sizeOf4
 v4 := Tryz.zeroValue4
 t22 := Tryz.underlying29
 a22 := Tryz.isAgg29
 z22 := Tryz.sizeOf29
 v22 := Tryz.zeroValue29
 i3 := by kernel_rfl }
open Go.RowKit Go.Lib Go.Sort in
theorem Tryz.slices_Compact_int (blk off cap : Nat) (zs : List Int) (w : World) (hH : Holds (Value.int .i64) w blk off zs.toArray) (hsz : zs.length ≤ 9223372036854775807) (hcap : zs.length ≤ cap) :
  Calls Tryz.prog 82 #[.slice (some ⟨blk, off, none⟩) zs.length cap] w fun e w' => e = .returned (.slice (some ⟨blk, off, none⟩) (Lib.compact zs).length cap) ∧ ∃ q, w' = putRow (Value.int .i64) (Sort.ahead w q) blk off (Lib.compact zs ++ List.replicate (zs.length - (Lib.compact zs).length) 0).toArray := Any.slices_Compact_int Tryz.laysNm220 blk off cap zs w hH hsz hcap
open Go.RowKit Go.Lib Go.Sort in
theorem Tryz.slices_Compact_int_empty (a : Option Addr) (cap : Nat) (w : World) :
  Calls Tryz.prog 82 #[.slice a 0 cap] w fun e w' => e = .returned (.slice a 0 cap) ∧ w' = w := Any.slices_Compact_int_empty Tryz.laysNm220 a cap w
open Go.RowKit Go.Sort in
theorem Tryz.slices_Sort_int_none (p : Option Addr) (cap : Nat) (w : World) :
  Calls Tryz.prog 81 #[.slice p 0 cap] w fun e w' => e = .returned (.tuple #[]) ∧ w' = w := Any.slices_Sort_int_none Tryz.lays189 p cap w
end Go.Proofs
