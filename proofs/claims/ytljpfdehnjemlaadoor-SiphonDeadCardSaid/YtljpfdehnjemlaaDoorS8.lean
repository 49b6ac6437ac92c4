/-
 Contracts: Deadlock; what a search within the limit gives.
-/
import Derived.Test.YtljpfdehnjemlaaDoorS7
set_option linter.unusedSimpArgs false
set_option linter.unusedVariables false
namespace Go.Proofs.YtljpfdehnjemlaaDoor
open Go.Eng Go.RowKit
theorem bnd_ok {n : Net} {nd : List SN} {ed : List Edg} (h : bndF n = .inr (nd, ed)) : NetOk n ∧ NodesOk n.init.length nd ∧ nd.length ≤ 4096 := by
 unfold bndF at h
 split at h
 ·cases h
 ·rename_i hE
  have hok := netOk_of (n := n) (by omega)
  have hS := search_ok n hok
  cases hs : searchF n 4096 with
  | err e => rw [hs] at h; cases h
  | pump a b p => rw [hs] at h; cases h
  | cont a b =>
   rw [hs] at h
   cases h
   exact ⟨hok, hS.2 _ _ hs⟩
end Go.Proofs.YtljpfdehnjemlaaDoor
