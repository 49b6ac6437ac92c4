/-
 Chapter 49: the law's statements SiphonMinimal, SiphonTests, SiphonTokens, SiphonCommoner.
-/
import Derived.Test.YtlankmlgomhbhaaGreatDoorWM
import Derived.Test.YtlankmlgomhbhaaGreatDoorSB
set_option linter.unusedSimpArgs false
set_option linter.unusedVariables false
namespace Go.Proofs.YtlankmlgomhbhaaGreatDoor
open Go.Eng Go.RowKit
theorem shape_net (s : Nat → Int) (hs : Bytes s) : (makeNet s).Fits ∧ NetOk (makeNet s) ∧ 1 ≤ (makeNet s).init.length ∧ (makeNet s).init.length ≤ 10 ∧ netE (makeNet s) = 0 ∧ (makeNet s).init ≠ [] := by
 have h := makeNet_ok s hs
 have hok := netOk_of h
 have hl : 1 ≤ (makeNet s).init.length := by
  rw [show (makeNet s).init.length = np s from initL_length s (np s)]
  unfold np
  omega
 exact ⟨hok.fits, hok, hl, hok.init, h, by intro e; rw [e] at hl; simp at hl⟩
theorem siE_nil {n : Net} {k : Int} (h : netE n = 0) : siE n [] k = if k ≠ 1 ∧ k ≠ 2 then 11 else 0 := by
 rw [siE, if_neg (by omega), if_neg (by simp [checkSet, csFrom])]
end Go.Proofs.YtlankmlgomhbhaaGreatDoor
