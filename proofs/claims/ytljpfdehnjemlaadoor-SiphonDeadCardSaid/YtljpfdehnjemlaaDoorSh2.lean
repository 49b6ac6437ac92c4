/-
 DERIVED: THE SHELF's CONTRACTS AT THIS DUMP, IN PLAIN WORDS (tools/lay-plain.mjs out of 'TrydShelf.lean', which tools/lay-shelf.mjs wrote): THE SAME DECLARATIONS UNDER THE SAME NAMES: 'import', 'namespace', 'open', 'def', 'theorem' AND NOTHING ELSE: no command of the shelf's: FOR A HAND-IN. Each laying: the table of numbers ('.._ren') and one theorem, a field a fact of the dump's own or the kernel's comparison; each contract: ONE APPLICATION.
-/
import Derived.Ground.SlsfProg
import Derived.Shelf.SlSortCmp.Whole1
import Derived.Test.YtljpfdehnjemlaaDoorProg
namespace Go.Proofs
open Go.Shelf
def Tryd.laysSlF6_f21_ren : Go.Shelf.Ren := ⟨fun | 6 => 21 | 15 => 45 | 14 => 44 | 28 => 68 | 29 => 69 | 20 => 60 | 21 => 61 | 22 => 62 | 23 => 63 | 24 => 64 | 25 => 65 | 26 => 66 | 27 => 67 | 46 => 78 | 47 => 79 | 48 => 80 | 49 => 81 | 50 => 82 | 57 => 87 | n => n, fun | 22 => 37 | 24 => 27 | 25 => 65 | 3 => 3 | 39 => 94 | 0 => 0 | 53 => 67 | 55 => 117 | 4 => 4 | 46 => 110 | 45 => 109 | 50 => 100 | 5 => 5 | 9 => 9 | 66 => 133 | 70 => 137 | 76 => 141 | 77 => 142 | n => n, fun | n => n⟩
theorem Tryd.laysSlF6_f21 : Go.Proofs.SlLaysF.n6 Tryd.prog Tryd.laysSlF6_f21_ren := {
 mixed := by kernel_rfl
 f6 := ⟨Tryd.f21.name, by decide, Tryd.func21.trans (congrArg some (by kernel_rfl))⟩
 f14 := ⟨Tryd.f44.name, by decide, Tryd.func44.trans (congrArg some (by kernel_rfl))⟩
 f15 := Tryd.func45.trans (congrArg some (by kernel_rfl))
 f20 := ⟨Tryd.f60.name, by decide, Tryd.func60.trans (congrArg some (by kernel_rfl))⟩
 f21 := ⟨Tryd.f61.name, by decide, Tryd.func61.trans (congrArg some (by kernel_rfl))⟩
 f22 := ⟨Tryd.f62.name, by decide, Tryd.func62.trans (congrArg some (by kernel_rfl))⟩
 f23 := ⟨Tryd.f63.name, by decide, Tryd.func63.trans (congrArg some (by kernel_rfl))⟩
 f24 := ⟨Tryd.f64.name, by decide, Tryd.func64.trans (congrArg some (by kernel_rfl))⟩
 f25 := ⟨Tryd.f65.name, by decide, Tryd.func65.trans (congrArg some (by kernel_rfl))⟩
 f26 := ⟨Tryd.f66.name, by decide, Tryd.func66.trans (congrArg some (by kernel_rfl))⟩
 f27 := ⟨Tryd.f67.name, by decide, Tryd.func67.trans (congrArg some (by kernel_rfl))⟩
 f28 := Tryd.func68.trans (congrArg some (by kernel_rfl))
 f29 := Tryd.func69.trans (congrArg some (by kernel_rfl))
 f46 := ⟨Tryd.f78.name, by decide, Tryd.func78.trans (congrArg some (by kernel_rfl))⟩
 f47 := Tryd.func79.trans (congrArg some (by kernel_rfl))
 f48 := Tryd.func80.trans (congrArg some (by kernel_rfl))
 f49 := ⟨Tryd.f81.name, by decide, Tryd.func81.trans (congrArg some (by kernel_rfl))⟩
 f50 := ⟨Tryd.f82.name, by decide, Tryd.func82.trans (congrArg some (by kernel_rfl))⟩
 f57 := ⟨Tryd.f87.name, by decide, Tryd.func87.trans (congrArg some (by kernel_rfl))⟩
 t0 := Tryd.underlying0
 a0 := Tryd.isAgg0
 z0 := Tryd.sizeOf0
 v0 := Tryd.zeroValue0
 t3 := Tryd.underlying3
 a3 := Tryd.isAgg3
 z3 := Tryd.sizeOf3
 v3 := Tryd.zeroValue3
 t4 := Tryd.underlying4
 a4 := Tryd.isAgg4
 z4 := Tryd.sizeOf4
 v4 := Tryd.zeroValue4
 t5 := Tryd.underlying5
 a5 := Tryd.isAgg5
 z5 := Tryd.sizeOf5
 v5 := Tryd.zeroValue5
 t9 := Tryd.underlying9
 a9 := Tryd.isAgg9
 z9 := Tryd.sizeOf9
 v9 := Tryd.zeroValue9
 t22 := Tryd.underlying37
 a22 := Tryd.isAgg37
 z22 := Tryd.sizeOf37
 v22 := Tryd.zeroValue37
 a24 := Tryd.isAgg27
 z24 := Tryd.sizeOf27
 t25 := Tryd.underlying65
 a25 := Tryd.isAgg65
 z25 := Tryd.sizeOf65
 v25 := Tryd.zeroValue65
 t39 := Tryd.underlying94
 a39 := Tryd.isAgg94
 z39 := Tryd.sizeOf94
 v39 := Tryd.zeroValue94
 t45 := Tryd.underlying109
 a45 := Tryd.isAgg109
 z45 := Tryd.sizeOf109
 v45 := Tryd.zeroValue109
 t46 := Tryd.underlying110
 a46 := Tryd.isAgg110
 z46 := Tryd.sizeOf110
 v46 := Tryd.zeroValue110
 t50 := Tryd.underlying100
 a50 := Tryd.isAgg100
 z50 := Tryd.sizeOf100
 v50 := Tryd.zeroValue100
 t53 := Tryd.underlying67
 a53 := Tryd.isAgg67
 z53 := Tryd.sizeOf67
 v53 := Tryd.zeroValue67
 t55 := Tryd.underlying117
 a55 := Tryd.isAgg117
 z55 := Tryd.sizeOf117
 v55 := Tryd.zeroValue117
 t66 := Tryd.underlying133
 a66 := Tryd.isAgg133
 z66 := Tryd.sizeOf133
 v66 := Tryd.zeroValue133
 t70 := Tryd.underlying137
 a70 := Tryd.isAgg137
 z70 := Tryd.sizeOf137
 v70 := Tryd.zeroValue137
 t76 := Tryd.underlying141
 a76 := Tryd.isAgg141
 z76 := Tryd.sizeOf141
 v76 := Tryd.zeroValue141
 t77 := Tryd.underlying142
 a77 := Tryd.isAgg142
 z77 := Tryd.sizeOf142
 v77 := Tryd.zeroValue142 }
open Go.RowKit Go.Lib Go.Sort in
theorem Tryd.slices_SortFunc {α : Type} [Inhabited α] (enc : α → Value) (h1 : OneCell enc) (cf : α → α → Int) (hO : SWO (ltOf cf)) (g : Nat) (cb : Array Value) (blk off cap : Nat) (d : Array α) (w : World) (eg : ∀ args w, (callFunc g args).run Tryd.prog w = .ok (.enter g args) w) (hcmp : CmpLays1 Tryd.prog g cb enc cf blk off d.size w) (hH : Holds enc w blk off d) (hblk : blk < w.heap.size) (hsz : d.size < 4611686018427387904) :
  Calls Tryd.prog 21 #[.slice (some ⟨blk, off, none⟩) d.size cap, .func (.func g) #[] cb] w fun e w' =>
   e = .returned (.tuple #[]) ∧ ∃ d' n os, PermIn 0 d.size d d' ∧ SortedIn (ltOf cf) 0 d.size d' ∧ w' = sortWorld enc w blk off n d' os := Any.slices_SortFunc Tryd.laysSlF6_f21 enc h1 cf hO g cb blk off cap d w eg hcmp hH hblk hsz
end Go.Proofs
