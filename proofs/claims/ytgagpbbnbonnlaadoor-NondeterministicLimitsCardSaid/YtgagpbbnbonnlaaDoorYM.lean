/-
 Chapter 05, plain: the automaton that guesses and counts is right; its sets (law NondeterministicLimits).
-/
import Derived.Test.YtgagpbbnbonnlaaDoorYL
set_option linter.unusedSimpArgs false
set_option linter.unusedVariables false
namespace Go.Proofs.YtgagpbbnbonnlaaDoor
open Go.Eng Go.RowKit
theorem cntE_inc (k : Nat) : ∀ m, EdInc (cntE k m)
 | 0 => by
  simp only [cntE, EdInc, List.pairwise_cons, List.mem_cons, List.not_mem_nil, or_false]
  refine ⟨fun y hy => ?_, fun y hy => ?_, fun y hy => hy.elim, .nil⟩
  ·rcases hy with rfl | rfl <;> (unfold edLt; simp)
  ·subst hy; unfold edLt; simp
 | m + 1 => by
  rw [cntE, EdInc, List.pairwise_append]
  refine ⟨cntE_inc k m, ?_, fun a ha b hb => ?_⟩
  ·simp only [List.pairwise_cons, List.mem_cons, List.not_mem_nil, or_false]
   refine ⟨fun y hy => ?_, fun y hy => hy.elim, .nil⟩
   subst hy; unfold edLt; simp
  ·have h1 : a.src ≤ m := by
    rcases cntE_mem.1 ha with rfl | rfl | rfl | ⟨i, h1, h2, rfl | rfl⟩ <;> simp only <;> omega
   have h2 : b.src = (m : Int) + 1 := by
    simp only [List.mem_cons, List.not_mem_nil, or_false] at hb
    rcases hb with rfl | rfl <;> rfl
   exact .inl (by omega)
theorem cntE_length (k : Nat) : ∀ m, (cntE k m).length = 2 * m + 3
 | 0 => rfl
 | m + 1 => by rw [cntE, List.length_append, cntE_length k m]; simp only [List.length_cons, List.length_nil]; omega
def cntNA (k : Nat) : NA := ⟨[0, 1], (k : Int) + 2, [0], [(k : Int) + 1], cntE k k⟩
theorem cnt_ed (k : Nat) : EdOk (k + 2) (cntE k k) := ⟨cntE_inc k k, fun x hx => (cntE_ok k x hx).2.2, fun x hx => (cntE_ok k x hx).2.1⟩
theorem cnt_na (k : Nat) : NaOk (cntNA k) := by
 refine ⟨by simp only [cntNA]; omega, by simp [cntNA, IncI], ⟨List.pairwise_singleton _ _, fun x hx => ?_⟩, ⟨List.pairwise_singleton _ _, fun x hx => ?_⟩, ?_⟩
 ·simp only [cntNA, List.mem_singleton] at *; omega
 ·simp only [cntNA, List.mem_singleton] at *; omega
 ·simp only [cntNA]
  rw [show ((k : Int) + 2).toNat = k + 2 by omega]
  exact cnt_ed k
theorem cnt_chk {k : Nat} (hk : k ≤ 14) : chkNA (cntNA k) = 0 := by
 refine chkNA_zero.2 ⟨cnt_na k, by simp only [cntNA]; omega, fun x hx => ?_, fun e he => ?_⟩
 ·simp only [cntNA, List.mem_cons, List.not_mem_nil, or_false] at hx; omega
 ·refine .inr ?_
  have := (cntE_ok k e he).1
  simp only [cntNA, List.mem_cons, List.not_mem_nil, or_false]
  exact this
theorem cnt_sets (k : Nat) : if 2 ^ (k + 1) ≤ 4096 then ∃ r, detN (cntNA k) (-1) = some r ∧ r.1.length = 2 ^ (k + 1) else detN (cntNA k) (-1) = none := by
 have h := cnt_det k (fun s => metL s (cntNA k).marked)
 have e : ((k : Int) + 2).toNat = k + 2 := by omega
 have hc : closN (k + 2) (leadE (cntE k k) (-1)) [0] = [0] := inc_ext closN_inc (List.pairwise_singleton _ _) fun z => mem_closN_quiet (cnt_quiet k) fun y hy => by
  rw [List.mem_singleton] at hy; omega
 have hd : detN (cntNA k) (-1) = detOut (stepN (k + 2) (cntE k k) (-1)) (fun s => metL s (cntNA k).marked) [0, 1] 4096 4098 0 [[0]] [] [] := by
  rw [detN]
  simp only [cntNA, e]
  rw [if_neg (by simp), hc]
 rw [hd]
 exact h
end Go.Proofs.YtgagpbbnbonnlaaDoor
