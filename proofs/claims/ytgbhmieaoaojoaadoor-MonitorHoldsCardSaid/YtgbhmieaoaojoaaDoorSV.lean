/-
 Chapter 47: the events of a net.
-/
import Derived.Test.YtgbhmieaoaojoaaDoorS8
import Derived.Test.YtgbhmieaoaojoaaDoorWE
import Derived.Test.YtgbhmieaoaojoaaDoorS9
set_option linter.unusedSimpArgs false
set_option linter.unusedVariables false
namespace Go.Proofs.YtgbhmieaoaojoaaDoor
open Go.Eng Go.RowKit Go.Lib
def evL (n : Net) : List Int := n.trs.map Tr.event
def evsN (n : Net) : List Int := compI (sortI (evL n))
theorem evsN_length (n : Net) : (evsN n).length ≤ n.trs.length := by
 have h := Lib.compact_length_le (sortI (evL n))
 rw [sortI_length, evL, List.length_map] at h
 exact h
theorem evL_succ (l : List Tr) (k : Nat) (h : k < l.length) : (l.take (k + 1)).map Tr.event = (l.take k).map Tr.event ++ [(l.getD k Tr.no).event] := by
 rw [take_succ_getD l k Tr.no h, List.map_append]; rfl
end Go.Proofs.YtgbhmieaoaojoaaDoor
