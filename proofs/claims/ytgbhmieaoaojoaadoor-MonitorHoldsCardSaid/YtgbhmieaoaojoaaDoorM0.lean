/-
 Small constraints are right (as N15, for seats that have SB).
-/
import Derived.Test.YtgbhmieaoaojoaaDoorN14
import Derived.Test.YtgbhmieaoaojoaaDoorSB
set_option linter.unusedSimpArgs false
set_option linter.unusedVariables false
namespace Go.Proofs.YtgbhmieaoaojoaaDoor
open Go.Eng Go.RowKit
theorem smallL_sm (f : Nat → Int) (k : Nat) : Sm 16 (smallL f k) := ⟨fun x hx => by
 simp only [smallL, List.mem_map] at hx
 obtain ⟨i, _, rfl⟩ := hx
 have := tmod_bound (f (i % 5)) 4 (by omega)
 omega⟩
theorem conE_of {n : Net} {c : Con} (h : netE n = 0) (hl : c.fac.length = n.init.length) (hf : Sm 16 c.fac) (hb : -65536 ≤ c.bound ∧ c.bound ≤ 65536) : conE n c = 0 := by
 have h1 : c.fac.any (largeB 16) = false := by
  rw [List.any_eq_false]
  intro x hx
  have := hf.all x hx
  simp only [largeB, Bool.or_eq_true, decide_eq_true_eq]
  omega
 have h2 : largeB 65536 c.bound = false := by
  simp only [largeB, Bool.or_eq_false_iff, decide_eq_false_iff_not]
  omega
 rw [conE, if_neg (by omega), if_neg (by omega), h1, h2]
 rfl
theorem Small_ok (n : Net) (f : Nat → Int) (b : Int) (h : netE n = 0) : conE n (Small n f b) = 0 := by
 have := tmod_bound b 8 (by omega)
 exact conE_of h (smallL_length f _) (smallL_sm f _) (by simp only [Small]; omega)
end Go.Proofs.YtgbhmieaoaojoaaDoor
