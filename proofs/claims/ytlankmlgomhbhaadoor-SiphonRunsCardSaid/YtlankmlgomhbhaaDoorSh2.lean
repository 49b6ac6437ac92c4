/-
 DERIVED: THE SHELF's CONTRACTS AT THIS DUMP, IN PLAIN WORDS (tools/lay-plain.mjs out of 'TrydShelf.lean', which tools/lay-shelf.mjs wrote): THE SAME DECLARATIONS UNDER THE SAME NAMES: 'import', 'namespace', 'open', 'def', 'theorem' AND NOTHING ELSE: no command of the shelf's: FOR A HAND-IN. Each laying: the table of numbers ('.._ren') and one theorem, a field a fact of the dump's own or the kernel's comparison; each contract: ONE APPLICATION.
-/
import Derived.Ground.SlsfProg
import Derived.Shelf.SlSortCmp.Whole1
import Derived.Shelf.SlSortCmp.NoneTotal
import Derived.Test.YtlankmlgomhbhaaDoorProg
namespace Go.Proofs
open Go.Shelf
def Tryd.laysSlF6_f38_ren : Go.Shelf.Ren := ⟨fun | 6 => 38 | 15 => 57 | 14 => 56 | 28 => 78 | 29 => 79 | 20 => 70 | 21 => 71 | 22 => 72 | 23 => 73 | 24 => 74 | 25 => 75 | 26 => 76 | 27 => 77 | 46 => 87 | 47 => 88 | 48 => 89 | 49 => 90 | 50 => 91 | 57 => 96 | n => n, fun | 22 => 33 | 24 => 27 | 25 => 42 | 3 => 3 | 39 => 111 | 0 => 0 | 53 => 94 | 55 => 132 | 4 => 4 | 46 => 125 | 45 => 124 | 50 => 116 | 5 => 5 | 9 => 9 | 66 => 147 | 70 => 151 | 76 => 155 | 77 => 156 | n => n, fun | n => n⟩
theorem Tryd.laysSlF6_f38 : Go.Proofs.SlLaysF.n6 Tryd.prog Tryd.laysSlF6_f38_ren := {
 mixed := by kernel_rfl
 f6 := ⟨Tryd.f38.name, by decide, Tryd.func38.trans (congrArg some (by kernel_rfl))⟩
 f14 := ⟨Tryd.f56.name, by decide, Tryd.func56.trans (congrArg some (by kernel_rfl))⟩
 f15 := Tryd.func57.trans (congrArg some (by kernel_rfl))
 f20 := ⟨Tryd.f70.name, by decide, Tryd.func70.trans (congrArg some (by kernel_rfl))⟩
 f21 := ⟨Tryd.f71.name, by decide, Tryd.func71.trans (congrArg some (by kernel_rfl))⟩
 f22 := ⟨Tryd.f72.name, by decide, Tryd.func72.trans (congrArg some (by kernel_rfl))⟩
 f23 := ⟨Tryd.f73.name, by decide, Tryd.func73.trans (congrArg some (by kernel_rfl))⟩
 f24 := ⟨Tryd.f74.name, by decide, Tryd.func74.trans (congrArg some (by kernel_rfl))⟩
 f25 := ⟨Tryd.f75.name, by decide, Tryd.func75.trans (congrArg some (by kernel_rfl))⟩
 f26 := ⟨Tryd.f76.name, by decide, Tryd.func76.trans (congrArg some (by kernel_rfl))⟩
 f27 := ⟨Tryd.f77.name, by decide, Tryd.func77.trans (congrArg some (by kernel_rfl))⟩
 f28 := Tryd.func78.trans (congrArg some (by kernel_rfl))
 f29 := Tryd.func79.trans (congrArg some (by kernel_rfl))
 f46 := ⟨Tryd.f87.name, by decide, Tryd.func87.trans (congrArg some (by kernel_rfl))⟩
 f47 := Tryd.func88.trans (congrArg some (by kernel_rfl))
 f48 := Tryd.func89.trans (congrArg some (by kernel_rfl))
 f49 := ⟨Tryd.f90.name, by decide, Tryd.func90.trans (congrArg some (by kernel_rfl))⟩
 f50 := ⟨Tryd.f91.name, by decide, Tryd.func91.trans (congrArg some (by kernel_rfl))⟩
 f57 := ⟨Tryd.f96.name, by decide, Tryd.func96.trans (congrArg some (by kernel_rfl))⟩
 t0 := Tryd.underlying0
 a0 := Tryd.isAgg0
 z0 := Tryd.sizeOf0
 v0 := Tryd.zeroValue0
 t3 := Tryd.underlying3
 a3 := Tryd.isAgg3
 z3 := Tryd.sizeOf3
 v3 := Tryd.zeroValue3
 t4 := Tryd.underlying4
 a4 := Tryd.isAgg4
 z4 := Tryd.sizeOf4
 v4 := Tryd.zeroValue4
 t5 := Tryd.underlying5
 a5 := Tryd.isAgg5
 z5 := Tryd.sizeOf5
 v5 := Tryd.zeroValue5
 t9 := Tryd.underlying9
 a9 := Tryd.isAgg9
 z9 := Tryd.sizeOf9
 v9 := Tryd.zeroValue9
 t22 := Tryd.underlying33
 a22 := Tryd.isAgg33
 z22 := Tryd.sizeOf33
 v22 := Tryd.zeroValue33
 a24 := Tryd.isAgg27
 z24 := Tryd.sizeOf27
 t25 := Tryd.underlying42
 a25 := Tryd.isAgg42
 z25 := Tryd.sizeOf42
 v25 := Tryd.zeroValue42
 t39 := Tryd.underlying111
 a39 := Tryd.isAgg111
 z39 := Tryd.sizeOf111
 v39 := Tryd.zeroValue111
 t45 := Tryd.underlying124
 a45 := Tryd.isAgg124
 z45 := Tryd.sizeOf124
 v45 := Tryd.zeroValue124
 t46 := Tryd.underlying125
 a46 := Tryd.isAgg125
 z46 := Tryd.sizeOf125
 v46 := Tryd.zeroValue125
 t50 := Tryd.underlying116
 a50 := Tryd.isAgg116
 z50 := Tryd.sizeOf116
 v50 := Tryd.zeroValue116
 t53 := Tryd.underlying94
 a53 := Tryd.isAgg94
 z53 := Tryd.sizeOf94
 v53 := Tryd.zeroValue94
 t55 := Tryd.underlying132
 a55 := Tryd.isAgg132
 z55 := Tryd.sizeOf132
 v55 := Tryd.zeroValue132
 t66 := Tryd.underlying147
 a66 := Tryd.isAgg147
 z66 := Tryd.sizeOf147
 v66 := Tryd.zeroValue147
 t70 := Tryd.underlying151
 a70 := Tryd.isAgg151
 z70 := Tryd.sizeOf151
 v70 := Tryd.zeroValue151
 t76 := Tryd.underlying155
 a76 := Tryd.isAgg155
 z76 := Tryd.sizeOf155
 v76 := Tryd.zeroValue155
 t77 := Tryd.underlying156
 a77 := Tryd.isAgg156
 z77 := Tryd.sizeOf156
 v77 := Tryd.zeroValue156 }
open Go.RowKit Go.Lib Go.Sort in
theorem Tryd.slices_SortFunc {α : Type} [Inhabited α] (enc : α → Value) (h1 : OneCell enc) (cf : α → α → Int) (hO : SWO (ltOf cf)) (g : Nat) (cb : Array Value) (blk off cap : Nat) (d : Array α) (w : World) (eg : ∀ args w, (callFunc g args).run Tryd.prog w = .ok (.enter g args) w) (hcmp : CmpLays1 Tryd.prog g cb enc cf blk off d.size w) (hH : Holds enc w blk off d) (hblk : blk < w.heap.size) (hsz : d.size < 4611686018427387904) :
  Calls Tryd.prog 38 #[.slice (some ⟨blk, off, none⟩) d.size cap, .func (.func g) #[] cb] w fun e w' =>
   e = .returned (.tuple #[]) ∧ ∃ d' n os, PermIn 0 d.size d d' ∧ SortedIn (ltOf cf) 0 d.size d' ∧ w' = sortWorld enc w blk off n d' os := Any.slices_SortFunc Tryd.laysSlF6_f38 enc h1 cf hO g cb blk off cap d w eg hcmp hH hblk hsz
end Go.Proofs
