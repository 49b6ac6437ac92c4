/-
 DERIVED: THE SHELF's CONTRACTS AT THIS DUMP, IN PLAIN WORDS (tools/lay-plain.mjs out of 'TryzShelf.lean', which tools/lay-shelf.mjs wrote): THE SAME DECLARATIONS UNDER THE SAME NAMES: 'import', 'namespace', 'open', 'def', 'theorem' AND NOTHING ELSE: no command of the shelf's: FOR A HAND-IN. Each laying: the table of numbers ('.._ren') and one theorem, a field a fact of the dump's own or the kernel's comparison; each contract: ONE APPLICATION.
-/
import Derived.Ground.SlsfProg
import Derived.Shelf.SlSortCmp.Whole1
import Derived.Test.YtlpllbbjmbbfnaaGreatDoorProg
namespace Go.Proofs
open Go.Shelf
def Tryz.laysSlF6_f68_ren : Go.Shelf.Ren := ⟨fun | 6 => 68 | 15 => 98 | 14 => 97 | 28 => 123 | 29 => 124 | 20 => 115 | 21 => 116 | 22 => 117 | 23 => 118 | 24 => 119 | 25 => 120 | 26 => 121 | 27 => 122 | 46 => 133 | 47 => 134 | 48 => 135 | 49 => 136 | 50 => 137 | 57 => 141 | n => n, fun | 22 => 45 | 24 => 30 | 25 => 136 | 3 => 3 | 39 => 159 | 0 => 0 | 53 => 131 | 55 => 185 | 4 => 4 | 46 => 178 | 45 => 177 | 50 => 171 | 5 => 5 | 9 => 9 | 66 => 198 | 70 => 202 | 76 => 206 | 77 => 207 | n => n, fun | n => n⟩
theorem Tryz.laysSlF6_f68 : Go.Proofs.SlLaysF.n6 Tryz.prog Tryz.laysSlF6_f68_ren := {
 mixed := by kernel_rfl
 f6 := ⟨Tryz.f68.name, by decide, Tryz.func68.trans (congrArg some (by kernel_rfl))⟩
 f14 := ⟨Tryz.f97.name, by decide, Tryz.func97.trans (congrArg some (by kernel_rfl))⟩
 f15 := Tryz.func98.trans (congrArg some (by kernel_rfl))
 f20 := ⟨Tryz.f115.name, by decide, Tryz.func115.trans (congrArg some (by kernel_rfl))⟩
 f21 := ⟨Tryz.f116.name, by decide, Tryz.func116.trans (congrArg some (by kernel_rfl))⟩
 f22 := ⟨Tryz.f117.name, by decide, Tryz.func117.trans (congrArg some (by kernel_rfl))⟩
 f23 := ⟨Tryz.f118.name, by decide, Tryz.func118.trans (congrArg some (by kernel_rfl))⟩
 f24 := ⟨Tryz.f119.name, by decide, Tryz.func119.trans (congrArg some (by kernel_rfl))⟩
 f25 := ⟨Tryz.f120.name, by decide, Tryz.func120.trans (congrArg some (by kernel_rfl))⟩
 f26 := ⟨Tryz.f121.name, by decide, Tryz.func121.trans (congrArg some (by kernel_rfl))⟩
 f27 := ⟨Tryz.f122.name, by decide, Tryz.func122.trans (congrArg some (by kernel_rfl))⟩
 f28 := Tryz.func123.trans (congrArg some (by kernel_rfl))
 f29 := Tryz.func124.trans (congrArg some (by kernel_rfl))
 f46 := ⟨Tryz.f133.name, by decide, Tryz.func133.trans (congrArg some (by kernel_rfl))⟩
 f47 := Tryz.func134.trans (congrArg some (by kernel_rfl))
 f48 := Tryz.func135.trans (congrArg some (by kernel_rfl))
 f49 := ⟨Tryz.f136.name, by decide, Tryz.func136.trans (congrArg some (by kernel_rfl))⟩
 f50 := ⟨Tryz.f137.name, by decide, Tryz.func137.trans (congrArg some (by kernel_rfl))⟩
 f57 := ⟨Tryz.f141.name, by decide, Tryz.func141.trans (congrArg some (by kernel_rfl))⟩
 t0 := Tryz.underlying0
 a0 := Tryz.isAgg0
 z0 := Tryz.sizeOf0
 v0 := Tryz.zeroValue0
 t3 := Tryz.underlying3
 a3 := Tryz.isAgg3
 z3 := Tryz.sizeOf3
 v3 := Tryz.zeroValue3
 t4 := Tryz.underlying4
 a4 := Tryz.isAgg4
 z4 := Tryz.sizeOf4
 v4 := Tryz.zeroValue4
 t5 := Tryz.underlying5
 a5 := Tryz.isAgg5
 z5 := Tryz.sizeOf5
 v5 := Tryz.zeroValue5
 t9 := Tryz.underlying9
 a9 := Tryz.isAgg9
 z9 := Tryz.sizeOf9
 v9 := Tryz.zeroValue9
 t22 := Tryz.underlying45
 a22 := Tryz.isAgg45
 z22 := Tryz.sizeOf45
 v22 := Tryz.zeroValue45
 a24 := Tryz.isAgg30
 z24 := Tryz.sizeOf30
 t25 := Tryz.underlying136
 a25 := Tryz.isAgg136
 z25 := Tryz.sizeOf136
 v25 := Tryz.zeroValue136
 t39 := Tryz.underlying159
 a39 := Tryz.isAgg159
 z39 := Tryz.sizeOf159
 v39 := Tryz.zeroValue159
 t45 := Tryz.underlying177
 a45 := Tryz.isAgg177
 z45 := Tryz.sizeOf177
 v45 := Tryz.zeroValue177
 t46 := Tryz.underlying178
 a46 := Tryz.isAgg178
 z46 := Tryz.sizeOf178
 v46 := Tryz.zeroValue178
 t50 := Tryz.underlying171
 a50 := Tryz.isAgg171
 z50 := Tryz.sizeOf171
 v50 := Tryz.zeroValue171
 t53 := Tryz.underlying131
 a53 := Tryz.isAgg131
 z53 := Tryz.sizeOf131
 v53 := Tryz.zeroValue131
 t55 := Tryz.underlying185
 a55 := Tryz.isAgg185
 z55 := Tryz.sizeOf185
 v55 := Tryz.zeroValue185
 t66 := Tryz.underlying198
 a66 := Tryz.isAgg198
 z66 := Tryz.sizeOf198
 v66 := Tryz.zeroValue198
 t70 := Tryz.underlying202
 a70 := Tryz.isAgg202
 z70 := Tryz.sizeOf202
 v70 := Tryz.zeroValue202
 t76 := Tryz.underlying206
 a76 := Tryz.isAgg206
 z76 := Tryz.sizeOf206
 v76 := Tryz.zeroValue206
 t77 := Tryz.underlying207
 a77 := Tryz.isAgg207
 z77 := Tryz.sizeOf207
 v77 := Tryz.zeroValue207 }
open Go.RowKit Go.Lib Go.Sort in
theorem Tryz.slices_SortFunc {α : Type} [Inhabited α] (enc : α → Value) (h1 : OneCell enc) (cf : α → α → Int) (hO : SWO (ltOf cf)) (g : Nat) (cb : Array Value) (blk off cap : Nat) (d : Array α) (w : World) (eg : ∀ args w, (callFunc g args).run Tryz.prog w = .ok (.enter g args) w) (hcmp : CmpLays1 Tryz.prog g cb enc cf blk off d.size w) (hH : Holds enc w blk off d) (hblk : blk < w.heap.size) (hsz : d.size < 4611686018427387904) :
 Calls Tryz.prog 68 #[.slice (some ⟨blk, off, none⟩) d.size cap, .func (.func g) #[] cb] w fun e w' =>
  e = .returned (.tuple #[]) ∧ ∃ d' n os, PermIn 0 d.size d d' ∧ SortedIn (ltOf cf) 0 d.size d' ∧ w' = sortWorld enc w blk off n d' os := Any.slices_SortFunc Tryz.laysSlF6_f68 enc h1 cf hO g cb blk off cap d w eg hcmp hH hblk hsz
end Go.Proofs
