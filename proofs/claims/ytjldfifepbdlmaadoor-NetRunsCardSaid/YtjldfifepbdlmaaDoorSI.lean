/-
 What NetPumps says, in plain Lean.
-/
import Derived.Test.YtjldfifepbdlmaaDoorSE
import Derived.Test.YtjldfifepbdlmaaDoorSM
import Derived.Test.YtjldfifepbdlmaaDoorS9
set_option linter.unusedSimpArgs false
set_option linter.unusedVariables false
namespace Go.Proofs.YtjldfifepbdlmaaDoor
open Go.Eng Go.RowKit
theorem make_light (s : Nat → Int) : Light (makeNet s) := by
 intro t ht a ha
 simp only [makeNet, trsL, List.mem_map] at ht
 obtain ⟨i, _, rfl⟩ := ht
 simp only [trL, arcsL, List.mem_map] at ha
 obtain ⟨p, _, rfl⟩ := ha
 simp only [outW]
 rcases Nat.lt_or_ge (s (12 + i * 5 + p) / 6 % 6).toNat 6 with h | h
 ·generalize (s (12 + i * 5 + p) / 6 % 6).toNat = j at *
  match j, h with
  | 0, _ => decide
  | 1, _ => decide
  | 2, _ => decide
  | 3, _ => decide
  | 4, _ => decide
  | 5, _ => decide
 ·rw [List.getD, List.getElem?_eq_none (by simpa using h)]; decide
theorem init_small (s : Nat → Int) : ∀ x ∈ (makeNet s).init, 0 ≤ x ∧ x ≤ 3 := by
 intro x hx
 simp only [makeNet, initL, List.mem_map] at hx
 obtain ⟨p, _, rfl⟩ := hx
 simp only [tok]; omega
end Go.Proofs.YtjldfifepbdlmaaDoor
