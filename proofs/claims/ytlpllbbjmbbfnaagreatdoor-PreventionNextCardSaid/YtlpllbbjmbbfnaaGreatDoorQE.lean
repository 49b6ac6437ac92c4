/-
 Chapter 51 in plain Lean: the net of two philosophers.
-/
import Derived.Test.YtlpllbbjmbbfnaaGreatDoorQB
set_option linter.unusedSimpArgs false
set_option linter.unusedVariables false
namespace Go.Proofs.YtlpllbbjmbbfnaaGreatDoor
open Go.Eng Go.RowKit
def ar1 (l : List Int) : List Arc := l.map fun p => ⟨p, 1⟩
def tabN (k : Int) : Net := ⟨[k, 0, 0, 1, 0, 0], [⟨0, ar1 [0], ar1 [1]⟩, ⟨1, ar1 [1, 3], ar1 [2]⟩, ⟨2, ar1 [2], ar1 [0, 3]⟩, ⟨3, ar1 [3], ar1 [4]⟩, ⟨4, ar1 [0, 4], ar1 [5]⟩, ⟨5, ar1 [5], ar1 [0, 3]⟩]⟩
def sets6 : List (List Int) := [[0], [1], [2], [3], [4], [5], [0, 1], [0, 2], [0, 3], [0, 4], [0, 5], [1, 2], [1, 3], [1, 4], [1, 5], [2, 3], [2, 4], [2, 5], [3, 4], [3, 5], [4, 5], [0, 1, 2], [0, 1, 3], [0, 1, 4], [0, 1, 5], [0, 2, 3], [0, 2, 4], [0, 2, 5], [0, 3, 4], [0, 3, 5], [0, 4, 5], [1, 2, 3], [1, 2, 4], [1, 2, 5], [1, 3, 4], [1, 3, 5], [1, 4, 5], [2, 3, 4], [2, 3, 5], [2, 4, 5], [3, 4, 5], [0, 1, 2, 3], [0, 1, 2, 4], [0, 1, 2, 5], [0, 1, 3, 4], [0, 1, 3, 5], [0, 1, 4, 5], [0, 2, 3, 4], [0, 2, 3, 5], [0, 2, 4, 5], [0, 3, 4, 5], [1, 2, 3, 4], [1, 2, 3, 5], [1, 2, 4, 5], [1, 3, 4, 5], [2, 3, 4, 5], [0, 1, 2, 3, 4], [0, 1, 2, 3, 5], [0, 1, 2, 4, 5], [0, 1, 3, 4, 5], [0, 2, 3, 4, 5], [1, 2, 3, 4, 5], [0, 1, 2, 3, 4, 5]]
theorem setsY_6 : setsY 6 = sets6 :=
 (sorted_one (lt := ltLL) (ys := setsY 6) (zs := sets6) (List.Perm.trans (List.isPerm_iff.1 (by decide +kernel)) (setsY_perm 6).symm) (setsY_pw 6) (by decide +kernel)).symm
theorem minL_tab : minL 1 (tabN 1) = [[0, 1, 2, 5], [0, 2, 3, 5], [2, 3, 4, 5]] := by
 unfold minL
 rw [show (tabN 1).init.length = 6 from rfl, setsY_6]
 decide +kernel
theorem nextF_tab : nextF (tabN 1) [] = some [0, 2, 3, 5] := by
 unfold nextF
 rw [minL_tab]
 kernel_rfl
theorem nextF_tab2 : nextF (tabN 1) [0, 3] = none := by
 unfold nextF
 rw [minL_tab]
 kernel_rfl
def ndOf : Sum Int (List SN × List Edg) → List SN
 | .inl _ => []
 | .inr (nd, _) => nd
def edOf : Sum Int (List SN × List Edg) → List Edg
 | .inl _ => []
 | .inr (_, ed) => ed
def tabN7 : Net := monNet (tabN 1) (kepC 6 [0, 2, 3, 5])
theorem bnd_tab : bndF (tabN 1) = .inr (ndOf (bndF (tabN 1)), edOf (bndF (tabN 1))) := by kernel_rfl
theorem bnd_tab7 : bndF tabN7 = .inr (ndOf (bndF tabN7), edOf (bndF tabN7)) := by kernel_rfl
theorem dead_tab : decide (deadFrom (tabN 1) (ndOf (bndF (tabN 1))) 0 < 0) = false := by kernel_rfl
theorem dead_tab7 : decide (deadFrom tabN7 (ndOf (bndF tabN7)) 0 < 0) = true := by kernel_rfl
theorem path_tab : pathF (ndOf (bndF (tabN 1))) (deadFrom (tabN 1) (ndOf (bndF (tabN 1))) 0) = [0, 3] := by kernel_rfl
theorem mon_tab : monE (tabN 1) (kepC 6 [0, 2, 3, 5]) = 0 := by decide +kernel
theorem prev_tab : prevR (tabN 1) [] = .ok [stepOf (tabN 1) [0, 2, 3, 5]] tabN7 := by
 have h1 := of_decide_eq_false dead_tab
 have h2 := of_decide_eq_true dead_tab7
 rw [prevR, show 11 - (tabN 1).init.length = 3 + 1 + 1 from rfl, prevF, bnd_tab]
 simp only
 rw [if_neg h1, nextF_tab]
 simp only
 rw [if_neg (by rw [show (tabN 1).init.length = 6 from rfl, mon_tab]; decide), prevF, show monNet (tabN 1) (kepC (tabN 1).init.length [0, 2, 3, 5]) = tabN7 from rfl, bnd_tab7]
 simp only
 rw [if_pos h2]
 rfl
theorem prev_tab2 : prevR (tabN 1) [0, 3] = .dead [] (tabN 1) [0, 3] := by
 have h1 := of_decide_eq_false dead_tab
 rw [prevR, show 11 - (tabN 1).init.length = 4 + 1 from rfl, prevF, bnd_tab]
 simp only
 rw [if_neg h1, nextF_tab2, path_tab]
end Go.Proofs.YtlpllbbjmbbfnaaGreatDoor
