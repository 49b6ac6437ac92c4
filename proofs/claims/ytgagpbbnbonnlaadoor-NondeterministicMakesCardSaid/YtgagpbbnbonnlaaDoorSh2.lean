/-
 DERIVED: THE SHELF's CONTRACTS AT THIS DUMP, IN PLAIN WORDS (tools/lay-plain.mjs out of 'TrydShelf.lean', which tools/lay-shelf.mjs wrote): THE SAME DECLARATIONS UNDER THE SAME NAMES: 'import', 'namespace', 'open', 'def', 'theorem' AND NOTHING ELSE: no command of the shelf's: FOR A HAND-IN. Each laying: the table of numbers ('.._ren') and one theorem, a field a fact of the dump's own or the kernel's comparison; each contract: ONE APPLICATION.
-/
import Derived.Ground.SlsfProg
import Derived.Shelf.SlSortCmp.WholeK
import Derived.Test.YtgagpbbnbonnlaaDoorProg
namespace Go.Proofs
open Go.Shelf
def Tryd.laysSlF06_f87_ren : Go.Shelf.Ren := ⟨fun | 6 => 87 | 15 => 99 | 14 => 98 | 28 => 111 | 29 => 112 | 20 => 103 | 21 => 104 | 22 => 105 | 23 => 106 | 24 => 107 | 25 => 108 | 26 => 109 | 27 => 110 | 46 => 117 | 47 => 118 | 48 => 119 | 49 => 120 | 50 => 121 | 57 => 126 | n => n, fun | 22 => 27 | 24 => 43 | 25 => 97 | 3 => 3 | 39 => 120 | 0 => 0 | 53 => 78 | 55 => 137 | 4 => 4 | 46 => 130 | 45 => 129 | 50 => 86 | 5 => 5 | 9 => 9 | 66 => 142 | 70 => 146 | 76 => 152 | 77 => 153 | n => n, fun | n => n⟩
theorem Tryd.laysSlF06_f87 : Go.Proofs.SlLaysF0.n6 Tryd.prog Tryd.laysSlF06_f87_ren := {
 mixed := by kernel_rfl
 f6 := ⟨Tryd.f87.name, by decide, Tryd.func87.trans (congrArg some (by kernel_rfl))⟩
 f14 := ⟨Tryd.f98.name, by decide, Tryd.func98.trans (congrArg some (by kernel_rfl))⟩
 f15 := Tryd.func99.trans (congrArg some (by kernel_rfl))
 f20 := ⟨Tryd.f103.name, by decide, Tryd.func103.trans (congrArg some (by kernel_rfl))⟩
 f21 := ⟨Tryd.f104.name, by decide, Tryd.func104.trans (congrArg some (by kernel_rfl))⟩
 f22 := ⟨Tryd.f105.name, by decide, Tryd.func105.trans (congrArg some (by kernel_rfl))⟩
 f23 := ⟨Tryd.f106.name, by decide, Tryd.func106.trans (congrArg some (by kernel_rfl))⟩
 f24 := ⟨Tryd.f107.name, by decide, Tryd.func107.trans (congrArg some (by kernel_rfl))⟩
 f25 := ⟨Tryd.f108.name, by decide, Tryd.func108.trans (congrArg some (by kernel_rfl))⟩
 f26 := ⟨Tryd.f109.name, by decide, Tryd.func109.trans (congrArg some (by kernel_rfl))⟩
 f27 := ⟨Tryd.f110.name, by decide, Tryd.func110.trans (congrArg some (by kernel_rfl))⟩
 f28 := Tryd.func111.trans (congrArg some (by kernel_rfl))
 f29 := Tryd.func112.trans (congrArg some (by kernel_rfl))
 f46 := ⟨Tryd.f117.name, by decide, Tryd.func117.trans (congrArg some (by kernel_rfl))⟩
 f47 := Tryd.func118.trans (congrArg some (by kernel_rfl))
 f48 := Tryd.func119.trans (congrArg some (by kernel_rfl))
 f49 := ⟨Tryd.f120.name, by decide, Tryd.func120.trans (congrArg some (by kernel_rfl))⟩
 f50 := ⟨Tryd.f121.name, by decide, Tryd.func121.trans (congrArg some (by kernel_rfl))⟩
 f57 := ⟨Tryd.f126.name, by decide, Tryd.func126.trans (congrArg some (by kernel_rfl))⟩
 t0 := Tryd.underlying0
 a0 := Tryd.isAgg0
 z0 := Tryd.sizeOf0
 v0 := Tryd.zeroValue0
 t3 := Tryd.underlying3
 a3 := Tryd.isAgg3
 z3 := Tryd.sizeOf3
 v3 := Tryd.zeroValue3
 t4 := Tryd.underlying4
 a4 := Tryd.isAgg4
 z4 := Tryd.sizeOf4
 v4 := Tryd.zeroValue4
 t5 := Tryd.underlying5
 a5 := Tryd.isAgg5
 z5 := Tryd.sizeOf5
 v5 := Tryd.zeroValue5
 t9 := Tryd.underlying9
 a9 := Tryd.isAgg9
 z9 := Tryd.sizeOf9
 v9 := Tryd.zeroValue9
 t22 := Tryd.underlying27
 a22 := Tryd.isAgg27
 z22 := Tryd.sizeOf27
 v22 := Tryd.zeroValue27
 t25 := Tryd.underlying97
 a25 := Tryd.isAgg97
 z25 := Tryd.sizeOf97
 v25 := Tryd.zeroValue97
 t39 := Tryd.underlying120
 a39 := Tryd.isAgg120
 z39 := Tryd.sizeOf120
 v39 := Tryd.zeroValue120
 t45 := Tryd.underlying129
 a45 := Tryd.isAgg129
 z45 := Tryd.sizeOf129
 v45 := Tryd.zeroValue129
 t46 := Tryd.underlying130
 a46 := Tryd.isAgg130
 z46 := Tryd.sizeOf130
 v46 := Tryd.zeroValue130
 t50 := Tryd.underlying86
 a50 := Tryd.isAgg86
 z50 := Tryd.sizeOf86
 v50 := Tryd.zeroValue86
 t53 := Tryd.underlying78
 a53 := Tryd.isAgg78
 z53 := Tryd.sizeOf78
 v53 := Tryd.zeroValue78
 t55 := Tryd.underlying137
 a55 := Tryd.isAgg137
 z55 := Tryd.sizeOf137
 v55 := Tryd.zeroValue137
 t66 := Tryd.underlying142
 a66 := Tryd.isAgg142
 z66 := Tryd.sizeOf142
 v66 := Tryd.zeroValue142
 t70 := Tryd.underlying146
 a70 := Tryd.isAgg146
 z70 := Tryd.sizeOf146
 v70 := Tryd.zeroValue146
 t76 := Tryd.underlying152
 a76 := Tryd.isAgg152
 z76 := Tryd.sizeOf152
 v76 := Tryd.zeroValue152
 t77 := Tryd.underlying153
 a77 := Tryd.isAgg153
 z77 := Tryd.sizeOf153
 v77 := Tryd.zeroValue153 }
open Go.RowKit Go.Lib Go.Sort in
theorem Tryd.slices_SortFunc {α : Type} [Inhabited α] (k : Nat) (aE : ∀ w, (isAgg 43).run Tryd.prog w = .ok true w) (zE : ∀ w, (Go.sizeOf 43).run Tryd.prog w = .ok k w) (enc : α → List Value) (hk : ∀ x, (enc x).length = k) (h1 : ∀ x, ∀ v ∈ enc x, v.oneCell' = true) (cf : α → α → Int) (hO : SWO (ltOf cf)) (g : Nat) (cb : Array Value) (blk off cap : Nat) (d : Array α) (w : World) (eg : ∀ args w, (callFunc g args).run Tryd.prog w = .ok (.enter g args) w) (hcmp : CmpLays Tryd.prog g cb enc k cf blk off d.size w) (hH : HoldsK enc k w blk off d) (hblk : blk < w.heap.size) (hsz : d.size < 4611686018427387904) :
  Calls Tryd.prog 87 #[.slice (some ⟨blk, off, none⟩) d.size cap, .func (.func g) #[] cb] w fun e w' =>
   e = .returned (.tuple #[]) ∧ ∃ d' n os, PermIn 0 d.size d d' ∧ SortedIn (ltOf cf) 0 d.size d' ∧ w' = sortWorldK enc k w blk off n d' os := AnyQ.slices_SortFunc Tryd.laysSlF06_f87 k aE zE enc hk h1 cf hO g cb blk off cap d w eg hcmp hH hblk hsz
end Go.Proofs
