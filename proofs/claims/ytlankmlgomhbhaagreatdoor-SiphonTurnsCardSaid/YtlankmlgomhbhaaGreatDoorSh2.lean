/-
 DERIVED: THE SHELF's CONTRACTS AT THIS DUMP, IN PLAIN WORDS (tools/lay-plain.mjs out of 'TryzShelf.lean', which tools/lay-shelf.mjs wrote): THE SAME DECLARATIONS UNDER THE SAME NAMES: 'import', 'namespace', 'open', 'def', 'theorem' AND NOTHING ELSE: no command of the shelf's: FOR A HAND-IN. Each laying: the table of numbers ('.._ren') and one theorem, a field a fact of the dump's own or the kernel's comparison; each contract: ONE APPLICATION.
-/
import Derived.Shelf.Sort.Plain
import Derived.Ground.Names2Prog
import Derived.Shelf.Slices.CompactI
import Derived.Shelf.Slices.In.SortNone
import Derived.Ground.SlsfProg
import Derived.Shelf.SlSortCmp.Whole1
import Derived.Test.YtlankmlgomhbhaaGreatDoorProg
namespace Go.Proofs
open Go.Shelf
def Tryz.lays189_ren : Go.Shelf.Ren := ⟨fun | 189 => 29 | 125 => 61 | 257 => 60 | 128 => 88 | 129 => 89 | 294 => 79 | 295 => 80 | 296 => 81 | 297 => 82 | 298 => 83 | 299 => 84 | 216 => 85 | 300 => 86 | 301 => 87 | 328 => 106 | 329 => 107 | 330 => 108 | 331 => 109 | 332 => 110 | 215 => 64 | 343 => 120 | n => n, fun | 28 => 27 | 3 => 3 | 46 => 96 | 0 => 0 | 51 => 71 | 53 => 129 | 4 => 4 | 183 => 120 | 182 => 119 | 131 => 125 | 5 => 5 | 9 => 9 | 218 => 140 | 222 => 144 | 228 => 154 | 229 => 155 | n => n, fun | n => n⟩
theorem Tryz.lays189 : Go.Proofs.Lays.n189 Tryz.prog Tryz.lays189_ren := {
 mixed := by kernel_rfl
 f125 := Tryz.func61.trans (congrArg some (by kernel_rfl))
 f128 := Tryz.func88.trans (congrArg some (by kernel_rfl))
 f129 := Tryz.func89.trans (congrArg some (by kernel_rfl))
 f189 := Tryz.func29.trans (congrArg some (by kernel_rfl))
 f215 := Tryz.func64.trans (congrArg some (by kernel_rfl))
 f216 := Tryz.func85.trans (congrArg some (by kernel_rfl))
 f257 := Tryz.func60.trans (congrArg some (by kernel_rfl))
 f294 := Tryz.func79.trans (congrArg some (by kernel_rfl))
 f295 := Tryz.func80.trans (congrArg some (by kernel_rfl))
 f296 := Tryz.func81.trans (congrArg some (by kernel_rfl))
 f297 := Tryz.func82.trans (congrArg some (by kernel_rfl))
 f298 := Tryz.func83.trans (congrArg some (by kernel_rfl))
 f299 := Tryz.func84.trans (congrArg some (by kernel_rfl))
 f300 := Tryz.func86.trans (congrArg some (by kernel_rfl))
 f301 := Tryz.func87.trans (congrArg some (by kernel_rfl))
 f328 := Tryz.func106.trans (congrArg some (by kernel_rfl))
 f329 := Tryz.func107.trans (congrArg some (by kernel_rfl))
 f330 := Tryz.func108.trans (congrArg some (by kernel_rfl))
 f331 := Tryz.func109.trans (congrArg some (by kernel_rfl))
 f332 := Tryz.func110.trans (congrArg some (by kernel_rfl))
 f343 := Tryz.func120.trans (congrArg some (by kernel_rfl))
 t0 := Tryz.underlying0
 a0 := Tryz.isAgg0
 z0 := Tryz.sizeOf0
 v0 := Tryz.zeroValue0
 t3 := Tryz.underlying3
 a3 := Tryz.isAgg3
 z3 := Tryz.sizeOf3
 v3 := Tryz.zeroValue3
 t4 := Tryz.underlying4
 a4 := Tryz.isAgg4
 z4 := Tryz.sizeOf4
 v4 := Tryz.zeroValue4
 t5 := Tryz.underlying5
 a5 := Tryz.isAgg5
 z5 := Tryz.sizeOf5
 v5 := Tryz.zeroValue5
 t9 := Tryz.underlying9
 a9 := Tryz.isAgg9
 z9 := Tryz.sizeOf9
 v9 := Tryz.zeroValue9
 t28 := Tryz.underlying27
 a28 := Tryz.isAgg27
 z28 := Tryz.sizeOf27
 v28 := Tryz.zeroValue27
 t46 := Tryz.underlying96
 a46 := Tryz.isAgg96
 z46 := Tryz.sizeOf96
 v46 := Tryz.zeroValue96
 t51 := Tryz.underlying71
 a51 := Tryz.isAgg71
 z51 := Tryz.sizeOf71
 v51 := Tryz.zeroValue71
 t53 := Tryz.underlying129
 a53 := Tryz.isAgg129
 z53 := Tryz.sizeOf129
 v53 := Tryz.zeroValue129
 t131 := Tryz.underlying125
 a131 := Tryz.isAgg125
 z131 := Tryz.sizeOf125
 v131 := Tryz.zeroValue125
 t182 := Tryz.underlying119
 a182 := Tryz.isAgg119
 z182 := Tryz.sizeOf119
 v182 := Tryz.zeroValue119
 t183 := Tryz.underlying120
 a183 := Tryz.isAgg120
 z183 := Tryz.sizeOf120
 v183 := Tryz.zeroValue120
 t218 := Tryz.underlying140
 a218 := Tryz.isAgg140
 z218 := Tryz.sizeOf140
 v218 := Tryz.zeroValue140
 t222 := Tryz.underlying144
 a222 := Tryz.isAgg144
 z222 := Tryz.sizeOf144
 v222 := Tryz.zeroValue144
 t228 := Tryz.underlying154
 a228 := Tryz.isAgg154
 z228 := Tryz.sizeOf154
 v228 := Tryz.zeroValue154
 t229 := Tryz.underlying155
 a229 := Tryz.isAgg155
 z229 := Tryz.sizeOf155
 v229 := Tryz.zeroValue155 }
open Go.Sort Go.RowKit in
theorem Tryz.slices_Sort_int (blk off cap : Nat) (zs : List Int) (w : World) (hH : Holds (Value.int .i64) w blk off zs.toArray) (hblk : blk < w.heap.size) (hsz : zs.length < 4611686018427387904) :
  Calls Tryz.prog 29 #[.slice (some ⟨blk, off, none⟩) zs.length cap] w fun e w' =>
   e = .returned (.tuple #[]) ∧ ∃ n os, w' = grow (putRow (Value.int .i64) (Sort.ahead w n) blk off (zs.mergeSort fun x y => decide (x ≤ y)).toArray) os := Any.slices_Sort_int Tryz.lays189 blk off cap zs w hH hblk hsz
def Tryz.laysNm220_ren : Go.Shelf.Ren := ⟨fun | 20 => 30 | n => n, fun | 22 => 27 | 3 => 3 | 4 => 4 | 0 => 0 | n => n, fun | n => n⟩
theorem Tryz.laysNm220 : Go.Proofs.Lays2.n20 Tryz.prog Tryz.laysNm220_ren := {
 mixed := by kernel_rfl
 f20 := Tryz.func30.trans (congrArg some (by kernel_rfl))
 t0 := Tryz.underlying0
 a0 := Tryz.isAgg0
 z0 := Tryz.sizeOf0
 v0 := Tryz.zeroValue0
 t3 := Tryz.underlying3
 a3 := Tryz.isAgg3
 z3 := Tryz.sizeOf3
 v3 := Tryz.zeroValue3
 t4 := Tryz.underlying4
 a4 := Tryz.isAgg4
 z4 := Tryz.sizeOf4
 v4 := Tryz.zeroValue4
 t22 := Tryz.underlying27
 a22 := Tryz.isAgg27
 z22 := Tryz.sizeOf27
 v22 := Tryz.zeroValue27
 i3 := by kernel_rfl }
open Go.RowKit Go.Lib Go.Sort in
theorem Tryz.slices_Compact_int (blk off cap : Nat) (zs : List Int) (w : World) (hH : Holds (Value.int .i64) w blk off zs.toArray) (hsz : zs.length ≤ 9223372036854775807) (hcap : zs.length ≤ cap) :
  Calls Tryz.prog 30 #[.slice (some ⟨blk, off, none⟩) zs.length cap] w fun e w' => e = .returned (.slice (some ⟨blk, off, none⟩) (Lib.compact zs).length cap) ∧ ∃ q, w' = putRow (Value.int .i64) (Sort.ahead w q) blk off (Lib.compact zs ++ List.replicate (zs.length - (Lib.compact zs).length) 0).toArray := Any.slices_Compact_int Tryz.laysNm220 blk off cap zs w hH hsz hcap
open Go.RowKit Go.Lib Go.Sort in
theorem Tryz.slices_Compact_int_empty (a : Option Addr) (cap : Nat) (w : World) :
  Calls Tryz.prog 30 #[.slice a 0 cap] w fun e w' => e = .returned (.slice a 0 cap) ∧ w' = w := Any.slices_Compact_int_empty Tryz.laysNm220 a cap w
open Go.RowKit Go.Sort in
theorem Tryz.slices_Sort_int_none (p : Option Addr) (cap : Nat) (w : World) :
  Calls Tryz.prog 29 #[.slice p 0 cap] w fun e w' => e = .returned (.tuple #[]) ∧ w' = w := Any.slices_Sort_int_none Tryz.lays189 p cap w
def Tryz.laysSlF6_f35_ren : Go.Shelf.Ren := ⟨fun | 6 => 35 | 15 => 61 | 14 => 63 | 28 => 88 | 29 => 89 | 20 => 90 | 21 => 91 | 22 => 92 | 23 => 93 | 24 => 94 | 25 => 95 | 26 => 96 | 27 => 97 | 46 => 111 | 47 => 107 | 48 => 108 | 49 => 112 | 50 => 113 | 57 => 121 | n => n, fun | 22 => 32 | 24 => 27 | 25 => 51 | 3 => 3 | 39 => 96 | 0 => 0 | 53 => 71 | 55 => 129 | 4 => 4 | 46 => 120 | 45 => 119 | 50 => 125 | 5 => 5 | 9 => 9 | 66 => 140 | 70 => 144 | 76 => 154 | 77 => 155 | n => n, fun | n => n⟩
theorem Tryz.laysSlF6_f35 : Go.Proofs.SlLaysF.n6 Tryz.prog Tryz.laysSlF6_f35_ren := {
 mixed := by kernel_rfl
 f6 := ⟨Tryz.f35.name, by decide, Tryz.func35.trans (congrArg some (by kernel_rfl))⟩
 f14 := ⟨Tryz.f63.name, by decide, Tryz.func63.trans (congrArg some (by kernel_rfl))⟩
 f15 := Tryz.func61.trans (congrArg some (by kernel_rfl))
 f20 := ⟨Tryz.f90.name, by decide, Tryz.func90.trans (congrArg some (by kernel_rfl))⟩
 f21 := ⟨Tryz.f91.name, by decide, Tryz.func91.trans (congrArg some (by kernel_rfl))⟩
 f22 := ⟨Tryz.f92.name, by decide, Tryz.func92.trans (congrArg some (by kernel_rfl))⟩
 f23 := ⟨Tryz.f93.name, by decide, Tryz.func93.trans (congrArg some (by kernel_rfl))⟩
 f24 := ⟨Tryz.f94.name, by decide, Tryz.func94.trans (congrArg some (by kernel_rfl))⟩
 f25 := ⟨Tryz.f95.name, by decide, Tryz.func95.trans (congrArg some (by kernel_rfl))⟩
 f26 := ⟨Tryz.f96.name, by decide, Tryz.func96.trans (congrArg some (by kernel_rfl))⟩
 f27 := ⟨Tryz.f97.name, by decide, Tryz.func97.trans (congrArg some (by kernel_rfl))⟩
 f28 := Tryz.func88.trans (congrArg some (by kernel_rfl))
 f29 := Tryz.func89.trans (congrArg some (by kernel_rfl))
 f46 := ⟨Tryz.f111.name, by decide, Tryz.func111.trans (congrArg some (by kernel_rfl))⟩
 f47 := Tryz.func107.trans (congrArg some (by kernel_rfl))
 f48 := Tryz.func108.trans (congrArg some (by kernel_rfl))
 f49 := ⟨Tryz.f112.name, by decide, Tryz.func112.trans (congrArg some (by kernel_rfl))⟩
 f50 := ⟨Tryz.f113.name, by decide, Tryz.func113.trans (congrArg some (by kernel_rfl))⟩
 f57 := ⟨Tryz.f121.name, by decide, Tryz.func121.trans (congrArg some (by kernel_rfl))⟩
 t0 := Tryz.underlying0
 a0 := Tryz.isAgg0
 z0 := Tryz.sizeOf0
 v0 := Tryz.zeroValue0
 t3 := Tryz.underlying3
 a3 := Tryz.isAgg3
 z3 := Tryz.sizeOf3
 v3 := Tryz.zeroValue3
 t4 := Tryz.underlying4
 a4 := Tryz.isAgg4
 z4 := Tryz.sizeOf4
 v4 := Tryz.zeroValue4
 t5 := Tryz.underlying5
 a5 := Tryz.isAgg5
 z5 := Tryz.sizeOf5
 v5 := Tryz.zeroValue5
 t9 := Tryz.underlying9
 a9 := Tryz.isAgg9
 z9 := Tryz.sizeOf9
 v9 := Tryz.zeroValue9
 t22 := Tryz.underlying32
 a22 := Tryz.isAgg32
 z22 := Tryz.sizeOf32
 v22 := Tryz.zeroValue32
 a24 := Tryz.isAgg27
 z24 := Tryz.sizeOf27
 t25 := Tryz.underlying51
 a25 := Tryz.isAgg51
 z25 := Tryz.sizeOf51
 v25 := Tryz.zeroValue51
 t39 := Tryz.underlying96
 a39 := Tryz.isAgg96
 z39 := Tryz.sizeOf96
 v39 := Tryz.zeroValue96
 t45 := Tryz.underlying119
 a45 := Tryz.isAgg119
 z45 := Tryz.sizeOf119
 v45 := Tryz.zeroValue119
 t46 := Tryz.underlying120
 a46 := Tryz.isAgg120
 z46 := Tryz.sizeOf120
 v46 := Tryz.zeroValue120
 t50 := Tryz.underlying125
 a50 := Tryz.isAgg125
 z50 := Tryz.sizeOf125
 v50 := Tryz.zeroValue125
 t53 := Tryz.underlying71
 a53 := Tryz.isAgg71
 z53 := Tryz.sizeOf71
 v53 := Tryz.zeroValue71
 t55 := Tryz.underlying129
 a55 := Tryz.isAgg129
 z55 := Tryz.sizeOf129
 v55 := Tryz.zeroValue129
 t66 := Tryz.underlying140
 a66 := Tryz.isAgg140
 z66 := Tryz.sizeOf140
 v66 := Tryz.zeroValue140
 t70 := Tryz.underlying144
 a70 := Tryz.isAgg144
 z70 := Tryz.sizeOf144
 v70 := Tryz.zeroValue144
 t76 := Tryz.underlying154
 a76 := Tryz.isAgg154
 z76 := Tryz.sizeOf154
 v76 := Tryz.zeroValue154
 t77 := Tryz.underlying155
 a77 := Tryz.isAgg155
 z77 := Tryz.sizeOf155
 v77 := Tryz.zeroValue155 }
open Go.RowKit Go.Lib Go.Sort in
theorem Tryz.slices_SortFunc {α : Type} [Inhabited α] (enc : α → Value) (h1 : OneCell enc) (cf : α → α → Int) (hO : SWO (ltOf cf)) (g : Nat) (cb : Array Value) (blk off cap : Nat) (d : Array α) (w : World) (eg : ∀ args w, (callFunc g args).run Tryz.prog w = .ok (.enter g args) w) (hcmp : CmpLays1 Tryz.prog g cb enc cf blk off d.size w) (hH : Holds enc w blk off d) (hblk : blk < w.heap.size) (hsz : d.size < 4611686018427387904) :
  Calls Tryz.prog 35 #[.slice (some ⟨blk, off, none⟩) d.size cap, .func (.func g) #[] cb] w fun e w' =>
   e = .returned (.tuple #[]) ∧ ∃ d' n os, PermIn 0 d.size d d' ∧ SortedIn (ltOf cf) 0 d.size d' ∧ w' = sortWorld enc w blk off n d' os := Any.slices_SortFunc Tryz.laysSlF6_f35 enc h1 cf hO g cb blk off cap d w eg hcmp hH hblk hsz
end Go.Proofs
