/-
 Contracts: sets of numbers are checked.
-/
import Derived.Test.YtljpfdehnjemlaaDoorN2
set_option linter.unusedSimpArgs false
set_option linter.unusedVariables false
namespace Go.Proofs.YtljpfdehnjemlaaDoor
open Go.Eng Go.RowKit
def csFrom (m : Int) : List Int → Option Int → Int
 | [], _ => 0
 | x :: l, prev => if x < 0 ∨ m ≤ x then 2 else if (prev.any fun p => decide (x ≤ p)) = true then 5 else csFrom m l (some x)
def checkSet (xs : List Int) (m : Int) : Int := csFrom m xs none
def prevOf (xs : List Int) (k : Nat) : Option Int := if k = 0 then none else some (xs.getD (k - 1) 0)
theorem cs_step {xs : List Int} {m b : Int} {k : Nat} (hk : k < xs.length) (h : b = csFrom m (xs.drop k) (prevOf xs k)) :
  b = if xs.getD k 0 < 0 ∨ m ≤ xs.getD k 0 then 2 else if 0 < k ∧ xs.getD k 0 ≤ xs.getD (k - 1) 0 then 5 else csFrom m (xs.drop (k + 1)) (prevOf xs (k + 1)) := by
 rw [drop_getD xs k 0 hk] at h
 rw [h, csFrom]
 split
 ·rfl
 ·unfold prevOf
  by_cases h0 : k = 0
  ·subst h0; simp
  ·simp [h0]; split <;> split <;> first | rfl | omega
set_option maxHeartbeats 4000000 in
theorem CheckSet_c (xs : List Int) (m : Int) (hn : xs.length ≤ 9223372036854775807) : ACalls Tryd.prog 43 [.one (.list (ints xs)), .one (.int .i64 m)] (.one (.int .i64 (checkSet xs m))) [] := by
 (refine ACalls.of_body Ty_ok mixed Tryd.func43 rfl (by kernel_rfl) Tryd.ntmps43 (by simp) (congrArg Array.toList Tryd.results43) ?_)
 simp only [slotsOf]
 (repeat' (first | (with_reducible first | exact True.intro | refine And.intro ?_ ?_ | refine aBl ?_ | (refine aS 10 [] ?_; intro K hK)) | ((with_reducible first | refine aGo ?_); simp only [go_sem]) | ((with_reducible refine aCd ?_ ?_ (fun hb => ?_) (fun hb => ?_)); (iterate 2 simp only [go_sem]); all_goals (simp only [go_sem] at hb; try simp only [bls] at hb)) | ((iterate 6 try ((fail_if_success with_reducible refine hK _ ?_ ?_ ?_); clear hK K)); with_reducible refine hK _ ?_ ?_ ?_; rotate_left; (focus (simp only [go_sem]; exact rfl)); clear hK K) | (with_reducible refine aGs (fun hg0 => ?_) (fun hg0 => ?_) <;> first | (with_reducible first | exact aF1 hg0 | exact aF2 hg0) | (simp only [hg0, go_sem])) | (with_reducible refine aNk ?_; intro bnil hnil; try simp only []) | exact aZ | fail))
 refine awp_loop _ (by simp only [go_sem]; rfl) Nat (fun k => k ≤ xs.length ∧ checkSet xs m = csFrom m (xs.drop k) (prevOf xs k)) (fun k => [(9, .one (.int .i64 k))]) (fun _ H => H) (fun k => xs.length - k) 0 ⟨by omega, by simp [checkSet, prevOf]⟩ ?_ ?_
 ·(simp only [SubF, go_sem]; (try simp only [go_sem]); repeat' (first | exact True.intro | with_reducible refine And.intro ?_ ?_ | rfl | omega))
 ·rintro k ⟨hk, hres⟩ L hL
  have hp := toNat_pred k
  (simp only [go_sem] at hL ⊢)
  (repeat' (first | (with_reducible first | exact True.intro | refine And.intro ?_ ?_ | refine aBl ?_ | (refine aS 10 [] ?_; intro K hK)) | ((with_reducible first | refine aGo ?_); simp only [hp, go_sem]) | ((with_reducible refine aCd ?_ ?_ (fun hb => ?_) (fun hb => ?_)); (iterate 2 simp only [hp, go_sem]); all_goals (simp only [hp, go_sem] at hb; try simp only [bls] at hb)) | ((iterate 6 try ((fail_if_success with_reducible refine hK _ ?_ ?_ ?_); clear hK K)); with_reducible refine hK _ ?_ ?_ ?_; rotate_left; (focus (simp only [hp, go_sem]; exact rfl)); clear hK K) | (with_reducible refine aGs (fun hg0 => ?_) (fun hg0 => ?_) <;> first | (with_reducible first | exact aF1 hg0 | exact aF2 hg0) | (simp only [hg0, hp, go_sem])) | (with_reducible refine aNk ?_; intro bnil hnil; try simp only []) | exact aZ | fail))
  ·rw [cs_step (by omega) hres, if_pos (by assumption)]
  ·rw [cs_step (by omega) hres, if_neg (by omega), if_pos (by omega)]
  ·have h1 := cs_step (by omega) hres
   rw [if_neg (by omega), if_neg (by omega)] at h1
   exact hL _ (k + 1) ⟨by omega, h1⟩ (by (simp only [SubF, go_sem]; (try simp only [go_sem]); repeat' (first | exact True.intro | with_reducible refine And.intro ?_ ?_ | rfl | omega))) (by omega)
  ·rw [hres, drop_end xs k (by omega)]; rfl
theorem csFrom_in (m : Int) : ∀ (xs : List Int) (p : Option Int), csFrom m xs p = 0 → ∀ x ∈ xs, 0 ≤ x ∧ x < m
 | [], _, _, x, hx => by simp at hx
 | y :: xs, p, h, x, hx => by
  simp only [csFrom] at h
  split at h
  ·cases h
  ·split at h
   ·cases h
   ·rcases List.mem_cons.1 hx with rfl | hx
    ·omega
    ·exact csFrom_in m xs _ h x hx
end Go.Proofs.YtljpfdehnjemlaaDoor
