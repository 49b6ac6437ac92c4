/-
 Chapter 05: the reference's Union; the law NondeterministicFrom.
-/
import Derived.Test.YtgagpbbnbonnlaaDoorZF
import Derived.Test.YtgagpbbnbonnlaaDoorZU
import Derived.Test.YtgagpbbnbonnlaaDoorZM
set_option linter.unusedSimpArgs false
set_option linter.unusedVariables false
namespace Go.Proofs.YtgagpbbnbonnlaaDoor
open Go.Eng Go.RowKit
theorem uni_fits (d o : Dft) : (uniNA d.na o.na).Fits := by
 have a1 := d.al_len
 have a2 := o.al_len
 have b1 := d.ini_len
 have b2 := o.ini_len
 have e1 := d.mk_len
 have e2 := o.mk_len
 have n1 := d.n_lt
 have n2 := o.n_lt
 have g1 := d.ed_len d.n (Nat.le_refl _)
 have g2 := o.ed_len o.n (Nat.le_refl _)
 refine ⟨?_, ?_, ?_, ?_⟩
 ·have := unionB_length d.alL o.alL
  show (unionB d.alL o.alL).length ≤ 1000
  omega
 ·show (sideI (d.n : Int) d.iniL o.iniL).length ≤ 1000
  rw [sideI_length]; omega
 ·show (sideI (d.n : Int) d.mkL o.mkL).length ≤ 1000
  rw [sideI_length]; omega
 ·show (rowI d.kp d.alL d.n d.n ++ shE (d.n : Int) (rowI o.kp o.alL o.n o.n)).length ≤ 1000
  rw [List.length_append, shE, List.length_map]; omega
end Go.Proofs.YtgagpbbnbonnlaaDoor
