/-
 What this program's rows list, and what follows from it.
-/
import Derived.Test.YtljpfdehnjemlaaDoorCards
import Derived.Test.YtljpfdehnjemlaaDoorTie
import Derived.Test.YtljpfdehnjemlaaDoorLift3
set_option linter.unusedSimpArgs false
set_option linter.unusedVariables false
namespace Go.Proofs.YtljpfdehnjemlaaDoor
open Go.Eng Go.RowKit Go.ChangeShapes
def laidL : List (String × DataW Unit) := [("math/bits.deBruijn32tab", Rows.laid_math_bits_deBruijn32tab), ("math/bits.deBruijn64tab", Rows.laid_math_bits_deBruijn64tab), ("internal/strconv.uint64pow10", Rows.laid_internal_strconv_uint64pow10)]
theorem laid_met (os : Os) (args : Array Value) : laidMetH Tryd.prog laidL ((World.laidAll Tryd.prog os laidL).forCall (fun _ _ => 0) ⟨#[], args, []⟩).memory := by
 rw [MakeChecks.laidMetH_plain _ _ _ (by kernel_rfl)]
 exact laidMet_laidAll _ (by kernel_rfl) (by kernel_rfl)
theorem powNamed : Tryd.prog.globalNamed "internal/strconv.uint64pow10" = some 0 := by kernel_rfl
theorem globs_laid (W : World) (h : laidMetH Tryd.prog laidL W) : ∀ x ∈ globs, x.1 < W.heap.size ∧ ∃ e fz, W.heap[x.1]? = some (.cells x.2 e fz) := by
 intro x hx
 rw [MakeChecks.laidMetH_plain _ _ _ (by kernel_rfl)] at h
 have ht : Lib.TabIs Tryd.prog W "internal/strconv.uint64pow10" .u64 Lib.pow10Tab :=
  Lib.tabIs_of_head (rest := []) (t := 153) (e := 117) (n := 20) powNamed (by kernel_rfl) Tryd.underlying153 Tryd.underlying117 (by kernel_rfl) (by kernel_rfl) (laidMet.tail (laidMet.tail h))
 obtain rfl := List.mem_singleton.1 hx
 exact glob_of_tab powNamed ht
theorem ownKnob_none : ownKnob Tryd.prog.godebug = none := by kernel_rfl
theorem laidOut : laidOutB Tryd.prog = true := by kernel_rfl
end Go.Proofs.YtljpfdehnjemlaaDoor
