/-
 Chapter 23: the laws DocumentEdits, DocumentApplies, DocumentUsers.
-/
import Derived.Test.YtkjnjkdcpbgabaaGreatDoorUY
import Derived.Test.YtkjnjkdcpbgabaaGreatDoorUQ
set_option linter.unusedSimpArgs false
set_option linter.unusedVariables false
namespace Go.Proofs.YtkjnjkdcpbgabaaGreatDoor
open Go.Eng Go.RowKit
theorem fewI_fits {x : It} (h : fewI x = true) : x.Fits := by
 simp only [fewI, fewL, Bool.and_eq_true, decide_eq_true_eq, List.all_eq_true, nameB] at h
 obtain ⟨⟨h1, h2, h3, h4, h5, h6⟩, h7, h8⟩ := h
 exact ⟨by omega, ⟨by omega, by omega, by omega⟩, by omega, by omega, fun y hy => by have := h7 y hy; omega, fun y hy => by have := h8 y hy; omega⟩
theorem fewB_fits {l : List It} (h : fewB l = true) : LFits l := by
 simp only [fewB, fewN, Bool.and_eq_true, decide_eq_true_eq, List.all_eq_true] at h
 exact ⟨by omega, fun x hx => fewI_fits (h.2 x hx)⟩
end Go.Proofs.YtkjnjkdcpbgabaaGreatDoor
