/-
 Contracts: the library's sorts and what thins slices out, over a slice of the call's own.
-/
import Derived.Test.YtjldfifepbdlmaaDoorE3
import Derived.Shelf.GgSortFunc.Insertion
import Derived.Test.YtjldfifepbdlmaaDoorS4
import Derived.Shelf.Sort.Plain
import Derived.Ground.Names2Prog
import Derived.Shelf.Slices.CompactI
import Derived.Shelf.Slices.In.SortNone
import Derived.Test.YtjldfifepbdlmaaDoorProg
import Derived.Shelf.SlSortCmp.Kit1
import Derived.Shelf.SlSortFuncK.RowK2
import Derived.Lib.SlKept
import Derived.Lib.RowBridge
import Derived.Lib.SliceRun
import Derived.Deep.LoopGhost
set_option linter.unusedSimpArgs false
set_option linter.unusedVariables false
namespace Go.Proofs.YtjldfifepbdlmaaDoor
open Go.RowKit Go.Eng Go.Sort Go.Lib Go.Proofs
/-! lists of numbers, by length, then one by one -/
def lexI : List Int → List Int → Int
 | [], [] => 0
 | [], _ :: _ => -1
 | _ :: _, [] => 1
 | x :: a, y :: b => if x < y then -1 else if y < x then 1 else lexI a b
/-! DeleteFunc, of a function that may lay blocks -/
end Go.Proofs.YtjldfifepbdlmaaDoor
