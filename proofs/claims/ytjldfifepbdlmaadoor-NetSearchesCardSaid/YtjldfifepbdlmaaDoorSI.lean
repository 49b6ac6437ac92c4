/-
 What NetPumps says, in plain Lean.
-/
import Derived.Test.YtjldfifepbdlmaaDoorSH
import Derived.Test.YtjldfifepbdlmaaDoorS9
set_option linter.unusedSimpArgs false
set_option linter.unusedVariables false
namespace Go.Proofs.YtjldfifepbdlmaaDoor
open Go.Eng Go.RowKit
theorem make_ne (s : Nat → Int) : (makeNet s).init ≠ [] := by
 intro h
 have : (makeNet s).init.length = 0 := by rw [h]; rfl
 rw [show (makeNet s).init.length = np s from initL_length s (np s), np] at this
 omega
end Go.Proofs.YtjldfifepbdlmaaDoor
