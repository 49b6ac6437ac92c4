/-
 DERIVED: THE SHELF's CONTRACTS AT THIS DUMP, IN PLAIN WORDS (tools/lay-plain.mjs out of 'TrydShelf.lean', which tools/lay-shelf.mjs wrote): THE SAME DECLARATIONS UNDER THE SAME NAMES: 'import', 'namespace', 'open', 'def', 'theorem' AND NOTHING ELSE: no command of the shelf's: FOR A HAND-IN. Each laying: the table of numbers ('.._ren') and one theorem, a field a fact of the dump's own or the kernel's comparison; each contract: ONE APPLICATION.
-/
import Derived.Shelf.Sort.Plain
import Derived.Ground.Names2Prog
import Derived.Shelf.Slices.CompactI
import Derived.Shelf.Slices.In.SortNone
import Derived.Test.YtjldfifepbdlmaaDoorProg
namespace Go.Proofs
open Go.Shelf
def Tryd.lays189_ren : Go.Shelf.Ren := ⟨fun | 189 => 68 | 125 => 77 | 257 => 76 | 128 => 89 | 129 => 90 | 294 => 80 | 295 => 81 | 296 => 82 | 297 => 83 | 298 => 84 | 299 => 85 | 216 => 86 | 300 => 87 | 301 => 88 | 328 => 93 | 329 => 94 | 330 => 95 | 331 => 96 | 332 => 97 | 215 => 98 | 343 => 103 | n => n, fun | 28 => 27 | 3 => 3 | 46 => 141 | 0 => 0 | 51 => 152 | 53 => 154 | 4 => 4 | 183 => 145 | 182 => 144 | 131 => 117 | 5 => 5 | 9 => 9 | 218 => 158 | 222 => 162 | 228 => 168 | 229 => 169 | n => n, fun | n => n⟩
theorem Tryd.lays189 : Go.Proofs.Lays.n189 Tryd.prog Tryd.lays189_ren := {
 mixed := by kernel_rfl
 f125 := Tryd.func77.trans (congrArg some (by kernel_rfl))
 f128 := Tryd.func89.trans (congrArg some (by kernel_rfl))
 f129 := Tryd.func90.trans (congrArg some (by kernel_rfl))
 f189 := Tryd.func68.trans (congrArg some (by kernel_rfl))
 f215 := Tryd.func98.trans (congrArg some (by kernel_rfl))
 f216 := Tryd.func86.trans (congrArg some (by kernel_rfl))
 f257 := Tryd.func76.trans (congrArg some (by kernel_rfl))
 f294 := Tryd.func80.trans (congrArg some (by kernel_rfl))
 f295 := Tryd.func81.trans (congrArg some (by kernel_rfl))
 f296 := Tryd.func82.trans (congrArg some (by kernel_rfl))
 f297 := Tryd.func83.trans (congrArg some (by kernel_rfl))
 f298 := Tryd.func84.trans (congrArg some (by kernel_rfl))
 f299 := Tryd.func85.trans (congrArg some (by kernel_rfl))
 f300 := Tryd.func87.trans (congrArg some (by kernel_rfl))
 f301 := Tryd.func88.trans (congrArg some (by kernel_rfl))
 f328 := Tryd.func93.trans (congrArg some (by kernel_rfl))
 f329 := Tryd.func94.trans (congrArg some (by kernel_rfl))
 f330 := Tryd.func95.trans (congrArg some (by kernel_rfl))
 f331 := Tryd.func96.trans (congrArg some (by kernel_rfl))
 f332 := Tryd.func97.trans (congrArg some (by kernel_rfl))
 f343 := Tryd.func103.trans (congrArg some (by kernel_rfl))
 t0 := Tryd.underlying0
 a0 := Tryd.isAgg0
 z0 := Tryd.sizeOf0
 v0 := Tryd.zeroValue0
 t3 := Tryd.underlying3
 a3 := Tryd.isAgg3
 z3 := Tryd.sizeOf3
 v3 := Tryd.zeroValue3
 t4 := Tryd.underlying4
 a4 := Tryd.isAgg4
 z4 := Tryd.sizeOf4
 v4 := Tryd.zeroValue4
 t5 := Tryd.underlying5
 a5 := Tryd.isAgg5
 z5 := Tryd.sizeOf5
 v5 := Tryd.zeroValue5
 t9 := Tryd.underlying9
 a9 := Tryd.isAgg9
 z9 := Tryd.sizeOf9
 v9 := Tryd.zeroValue9
 t28 := Tryd.underlying27
 a28 := Tryd.isAgg27
 z28 := Tryd.sizeOf27
 v28 := Tryd.zeroValue27
 t46 := Tryd.underlying141
 a46 := Tryd.isAgg141
 z46 := Tryd.sizeOf141
 v46 := Tryd.zeroValue141
 t51 := Tryd.underlying152
 a51 := Tryd.isAgg152
 z51 := Tryd.sizeOf152
 v51 := Tryd.zeroValue152
 t53 := Tryd.underlying154
 a53 := Tryd.isAgg154
 z53 := Tryd.sizeOf154
 v53 := Tryd.zeroValue154
 t131 := Tryd.underlying117
 a131 := Tryd.isAgg117
 z131 := Tryd.sizeOf117
 v131 := Tryd.zeroValue117
 t182 := Tryd.underlying144
 a182 := Tryd.isAgg144
 z182 := Tryd.sizeOf144
 v182 := Tryd.zeroValue144
 t183 := Tryd.underlying145
 a183 := Tryd.isAgg145
 z183 := Tryd.sizeOf145
 v183 := Tryd.zeroValue145
 t218 := Tryd.underlying158
 a218 := Tryd.isAgg158
 z218 := Tryd.sizeOf158
 v218 := Tryd.zeroValue158
 t222 := Tryd.underlying162
 a222 := Tryd.isAgg162
 z222 := Tryd.sizeOf162
 v222 := Tryd.zeroValue162
 t228 := Tryd.underlying168
 a228 := Tryd.isAgg168
 z228 := Tryd.sizeOf168
 v228 := Tryd.zeroValue168
 t229 := Tryd.underlying169
 a229 := Tryd.isAgg169
 z229 := Tryd.sizeOf169
 v229 := Tryd.zeroValue169 }
open Go.Sort Go.RowKit in
theorem Tryd.slices_Sort_int (blk off cap : Nat) (zs : List Int) (w : World) (hH : Holds (Value.int .i64) w blk off zs.toArray) (hblk : blk < w.heap.size) (hsz : zs.length < 4611686018427387904) :
 Calls Tryd.prog 68 #[.slice (some ⟨blk, off, none⟩) zs.length cap] w fun e w' =>
  e = .returned (.tuple #[]) ∧ ∃ n os, w' = grow (putRow (Value.int .i64) (Sort.ahead w n) blk off (zs.mergeSort fun x y => decide (x ≤ y)).toArray) os := Any.slices_Sort_int Tryd.lays189 blk off cap zs w hH hblk hsz
def Tryd.laysNm220_ren : Go.Shelf.Ren := ⟨fun | 20 => 69 | n => n, fun | 22 => 27 | 3 => 3 | 4 => 4 | 0 => 0 | n => n, fun | n => n⟩
theorem Tryd.laysNm220 : Go.Proofs.Lays2.n20 Tryd.prog Tryd.laysNm220_ren := {
 mixed := by kernel_rfl
 f20 := Tryd.func69.trans (congrArg some (by kernel_rfl))
 t0 := Tryd.underlying0
 a0 := Tryd.isAgg0
 z0 := Tryd.sizeOf0
 v0 := Tryd.zeroValue0
 t3 := Tryd.underlying3
 a3 := Tryd.isAgg3
 z3 := Tryd.sizeOf3
 v3 := Tryd.zeroValue3
 t4 := Tryd.underlying4
 a4 := Tryd.isAgg4
 z4 := Tryd.sizeOf4
 v4 := Tryd.zeroValue4
 t22 := Tryd.underlying27
 a22 := Tryd.isAgg27
 z22 := Tryd.sizeOf27
 v22 := Tryd.zeroValue27
 i3 := by kernel_rfl }
open Go.RowKit Go.Lib Go.Sort in
theorem Tryd.slices_Compact_int (blk off cap : Nat) (zs : List Int) (w : World) (hH : Holds (Value.int .i64) w blk off zs.toArray) (hsz : zs.length ≤ 9223372036854775807) (hcap : zs.length ≤ cap) :
 Calls Tryd.prog 69 #[.slice (some ⟨blk, off, none⟩) zs.length cap] w fun e w' => e = .returned (.slice (some ⟨blk, off, none⟩) (Lib.compact zs).length cap) ∧ ∃ q, w' = putRow (Value.int .i64) (Sort.ahead w q) blk off (Lib.compact zs ++ List.replicate (zs.length - (Lib.compact zs).length) 0).toArray := Any.slices_Compact_int Tryd.laysNm220 blk off cap zs w hH hsz hcap
open Go.RowKit Go.Lib Go.Sort in
theorem Tryd.slices_Compact_int_empty (a : Option Addr) (cap : Nat) (w : World) :
 Calls Tryd.prog 69 #[.slice a 0 cap] w fun e w' => e = .returned (.slice a 0 cap) ∧ w' = w := Any.slices_Compact_int_empty Tryd.laysNm220 a cap w
open Go.RowKit Go.Sort in
theorem Tryd.slices_Sort_int_none (p : Option Addr) (cap : Nat) (w : World) :
 Calls Tryd.prog 68 #[.slice p 0 cap] w fun e w' => e = .returned (.tuple #[]) ∧ w' = w := Any.slices_Sort_int_none Tryd.lays189 p cap w
end Go.Proofs
