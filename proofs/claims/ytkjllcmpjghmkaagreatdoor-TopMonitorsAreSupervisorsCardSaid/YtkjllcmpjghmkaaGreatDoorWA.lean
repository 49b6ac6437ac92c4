/-
 Contracts: sets of numbers are checked.
-/
import Derived.Test.YtkjllcmpjghmkaaGreatDoorN2
set_option linter.unusedSimpArgs false
set_option linter.unusedVariables false
namespace Go.Proofs.YtkjllcmpjghmkaaGreatDoor
open Go.Eng Go.RowKit
def z3g (m : Int) : List Int → Option Int → Int
 | [], _ => 0
 | x :: l, prev => if x < 0 ∨ m ≤ x then 2 else if (prev.any fun p => decide (x ≤ p)) = true then 5 else z3g m l (some x)
def z0i (xs : List Int) (m : Int) : Int := z3g m xs none
def z6x (xs : List Int) (k : Nat) : Option Int := if k = 0 then none else some (xs.getD (k - 1) 0)
theorem z4W {xs : List Int} {m b : Int} {k : Nat} (hk : k < xs.length) (h : b = z3g m (xs.drop k) (z6x xs k)) :
  b = if xs.getD k 0 < 0 ∨ m ≤ xs.getD k 0 then 2 else if 0 < k ∧ xs.getD k 0 ≤ xs.getD (k - 1) 0 then 5 else z3g m (xs.drop (k + 1)) (z6x xs (k + 1)) := by
 rw [z0H xs k 0 hk] at h
 rw [h, z3g]
 split
 ·rfl
 ·unfold z6x
  by_cases h0 : k = 0
  ·subst h0; simp
  ·simp [h0]; split <;> split <;> first | rfl | omega
set_option maxHeartbeats 4000000 in
theorem z5c (xs : List Int) (m : Int) (hn : xs.length ≤ 9223372036854775807) : ACalls Tryz.prog 69 [.one (.list (ints xs)), .one (.int .i64 m)] (.one (.int .i64 (z0i xs m))) [] := by
 (refine ACalls.of_body Ty_ok mixed Tryz.func69 rfl (by kernel_rfl) Tryz.ntmps69 (by simp) (congrArg Array.toList Tryz.results69) ?_)
 simp only [z00]
 (repeat' (first | (with_reducible first | refine aBl ?_ | (refine aS 10 [] ?_; intro K hK)) | ((with_reducible refine aGo ?_); simp only [go_sem]) | ((iterate 6 try ((fail_if_success with_reducible refine hK _ ?_ ?_ ?_); clear hK K)); with_reducible refine hK _ ?_ ?_ ?_; rotate_left; (focus (simp only [go_sem]; exact rfl)); clear hK K) | fail))
 refine z02 _ (by simp only [go_sem]; rfl) Nat (fun k => k ≤ xs.length ∧ z0i xs m = z3g m (xs.drop k) (z6x xs k)) (fun k => [(9, .one (.int .i64 k))]) (fun _ H => H) (fun k => xs.length - k) 0 ⟨by omega, by simp [z0i, z6x]⟩ ?_ ?_
 ·(simp only [SubF, go_sem]; (try simp only [go_sem]); repeat' (first | exact True.intro | with_reducible refine And.intro ?_ ?_ | rfl | omega))
 ·rintro k ⟨hk, hres⟩ L hL
  have hp := z2o k
  (simp only [go_sem] at hL ⊢)
  (repeat' (first | (with_reducible first | refine And.intro ?_ ?_ | refine aBl ?_ | (refine aS 10 [] ?_; intro K hK)) | ((with_reducible refine aGo ?_); simp only [hp, go_sem]) | ((with_reducible refine aCd ?_ ?_ (fun hb => ?_) (fun hb => ?_)); (iterate 2 simp only [hp, go_sem]); all_goals (simp only [hp, go_sem] at hb; try simp only [bls] at hb)) | ((iterate 6 try ((fail_if_success with_reducible refine hK _ ?_ ?_ ?_); clear hK K)); with_reducible refine hK _ ?_ ?_ ?_; rotate_left; (focus (simp only [hp, go_sem]; exact rfl)); clear hK K) | exact aZ | fail))
  ·rw [z4W (by omega) hres, if_pos (by assumption)]
  ·rw [z4W (by omega) hres, if_neg (by omega), if_pos (by omega)]
  ·have h1 := z4W (by omega) hres
   rw [if_neg (by omega), if_neg (by omega)] at h1
   exact hL _ (k + 1) ⟨by omega, h1⟩ (by (simp only [SubF, go_sem]; (try simp only [go_sem]); repeat' (first | exact True.intro | with_reducible refine And.intro ?_ ?_ | rfl | omega))) (by omega)
  ·rw [hres, z0z xs k (by omega)]; rfl
theorem zav (m : Int) : ∀ (xs : List Int) (p : Option Int), z3g m xs p = 0 → ∀ x ∈ xs, 0 ≤ x ∧ x < m
 | [], _, _, x, hx => by simp at hx
 | y :: xs, p, h, x, hx => by
  simp only [z3g] at h
  split at h
  ·cases h
  ·split at h
   ·cases h
   ·rcases List.mem_cons.1 hx with rfl | hx
    ·omega
    ·exact zav m xs _ h x hx
end Go.Proofs.YtkjllcmpjghmkaaGreatDoor
