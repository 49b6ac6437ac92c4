/-
 Contracts: comparing lists and lists of lists; the nets of the first example.
-/
import Derived.Test.YtkjllcmpjghmkaaGreatDoorS4
set_option linter.unusedSimpArgs false
set_option linter.unusedVariables false
namespace Go.Proofs.YtkjllcmpjghmkaaGreatDoor
open Go.Eng Go.RowKit
set_option maxHeartbeats 8000000 in
theorem z5b (xs ys : List Int) (hn : xs.length ≤ 1000000) : ACalls Tryz.prog 91 [.one (.list (ints xs)), .one (.list (ints ys))] (.one (.bool (decide (xs = ys)))) [] := by
 (refine ACalls.of_body Ty_ok mixed Tryz.func91 rfl (by kernel_rfl) Tryz.ntmps91 (by simp) (congrArg Array.toList Tryz.results91) ?_)
 simp only [z00]
 (repeat' (first | (with_reducible first | refine aBl ?_ | (refine aS 6 [] ?_; intro K hK)) | ((with_reducible refine aGo ?_); simp only [go_sem]) | ((with_reducible refine aCd ?_ ?_ (fun hb => ?_) (fun hb => ?_)); (iterate 2 simp only [go_sem]); all_goals (simp only [go_sem] at hb; try simp only [bls] at hb)) | ((iterate 6 try ((fail_if_success with_reducible refine hK _ ?_ ?_ ?_); clear hK K)); with_reducible refine hK _ ?_ ?_ ?_; rotate_left; (focus (simp only [go_sem]; exact rfl)); clear hK K) | fail))
 ·have : xs ≠ ys := by rintro rfl; omega
  simp [this]
 refine z02 _ (by simp only [go_sem]; rfl) Nat (fun k => k ≤ xs.length ∧ decide (xs = ys) = decide (xs.drop k = ys.drop k)) (fun k => [(5, .one (.int .i64 k))]) (fun _ H => H) (fun k => xs.length - k) 0 ⟨by omega, by simp⟩ ?_ ?_
 ·(simp only [SubF, go_sem]; (try simp only [go_sem]); repeat' (first | exact True.intro | with_reducible refine And.intro ?_ ?_ | rfl | omega))
 ·rintro k ⟨hk, hres⟩ L hL
  have hq : ((k : Nat) : Int).toNat = k := by omega
  (simp only [go_sem] at hL ⊢)
  (repeat' (first | (with_reducible first | refine And.intro ?_ ?_ | refine aBl ?_ | (refine aS 6 [] ?_; intro K hK)) | ((with_reducible first | refine aGo ?_ | refine rD (id := 6) ?_); simp only [hq, go_sem]) | ((with_reducible refine aCd ?_ ?_ (fun hb => ?_) (fun hb => ?_)); (iterate 2 simp only [hq, go_sem]); all_goals (simp only [hq, go_sem] at hb; try simp only [bls] at hb)) | ((iterate 6 try ((fail_if_success with_reducible refine hK _ ?_ ?_ ?_); clear hK K)); with_reducible refine hK _ ?_ ?_ ?_; rotate_left; (focus (simp only [hq, go_sem]; exact rfl)); clear hK K) | exact aZ | fail))
  ·rw [z2N (d := 0) (by omega) (by omega) hres, decide_eq_false hb]; rfl
  ·have h1 := z2N (d := 0) (by omega) (by omega) hres
   rw [decide_eq_true hb, Bool.true_and] at h1
   exact hL _ (k + 1) ⟨by omega, h1⟩ (by (simp only [SubF, go_sem]; (try simp only [go_sem]); repeat' (first | exact True.intro | with_reducible refine And.intro ?_ ?_ | rfl | omega))) (by omega)
  ·rw [hres, z0z xs k (by omega), z0z ys k (by omega)]; rfl
set_option maxHeartbeats 8000000 in
theorem zbT (xs ys : List (List Int)) (hn : xs.length ≤ 1000000) (hx : ∀ x ∈ xs, x.length ≤ 1000000) : ACalls Tryz.prog 104 [.one (.list (z0v xs)), .one (.list (z0v ys))] (.one (.bool (decide (xs = ys)))) [] := by
 (refine ACalls.of_body Ty_ok mixed Tryz.func104 rfl (by kernel_rfl) Tryz.ntmps104 (by simp) (congrArg Array.toList Tryz.results104) ?_)
 simp only [z00]
 (repeat' (first | (with_reducible first | refine aBl ?_ | (refine aS 6 [] ?_; intro K hK)) | ((with_reducible refine aGo ?_); simp only [go_sem]) | ((with_reducible refine aCd ?_ ?_ (fun hb => ?_) (fun hb => ?_)); (iterate 2 simp only [go_sem]); all_goals (simp only [go_sem] at hb; try simp only [bls] at hb)) | ((iterate 6 try ((fail_if_success with_reducible refine hK _ ?_ ?_ ?_); clear hK K)); with_reducible refine hK _ ?_ ?_ ?_; rotate_left; (focus (simp only [go_sem]; exact rfl)); clear hK K) | fail))
 ·have : xs ≠ ys := by rintro rfl; omega
  simp [this]
 refine z02 _ (by simp only [go_sem]; rfl) Nat (fun k => k ≤ xs.length ∧ decide (xs = ys) = decide (xs.drop k = ys.drop k)) (fun k => [(5, .one (.int .i64 k))]) (fun _ H => H) (fun k => xs.length - k) 0 ⟨by omega, by simp⟩ ?_ ?_
 ·(simp only [SubF, go_sem]; (try simp only [go_sem]); repeat' (first | exact True.intro | with_reducible refine And.intro ?_ ?_ | rfl | omega))
 ·rintro k ⟨hk, hres⟩ L hL
  have hq : ((k : Nat) : Int).toNat = k := by omega
  by_cases hlt : k < xs.length
  ·have a1 := z1d hlt [.nil]
   have a2 := z1d (l := ys) (k := k) (by omega) [.nil]
   have a3 := z1d hlt []
   have a4 := z1d (l := ys) (k := k) (by omega) []
   have hc := z5b (xs.getD k []) (ys.getD k []) (hx _ (z01 xs k [] hlt))
   (simp only [go_sem] at hL ⊢)
   (repeat' (first | (with_reducible first | refine And.intro ?_ ?_ | refine aBl ?_ | (refine aS 6 [] ?_; intro K hK)) | ((with_reducible first | refine aGo ?_ | refine rP Ty_ok mixed 6 [0, 1, 4, 5] [.mid [pe 2, pe 3, pe 6, pe 7] 0, .one 8, .one 9] ?_); simp only [hq, a1, a2, a3, a4, go_sem]) | ((with_reducible refine aCd ?_ ?_ (fun hb => ?_) (fun hb => ?_)); (iterate 2 simp only [hq, a1, a2, a3, a4, go_sem]); all_goals (simp only [hq, a1, a2, a3, a4, go_sem] at hb; try simp only [bls] at hb)) | ((iterate 6 try ((fail_if_success with_reducible refine hK _ ?_ ?_ ?_); clear hK K)); with_reducible refine hK _ ?_ ?_ ?_; rotate_left; (focus (simp only [hq, a1, a2, a3, a4, go_sem]; exact rfl)); clear hK K) | ((with_reducible refine xA ?_); simp only [hq, a1, a2, a3, a4, go_sem]) | exact aZ | fail))
   all_goals first | omega | skip
   ·rw [z2N (d := []) (by omega) (by omega) hres, decide_eq_false hb]; rfl
   ·have h1 := z2N (d := []) (by omega) (by omega) hres
    rw [decide_eq_true hb, Bool.true_and] at h1
    exact hL _ (k + 1) ⟨by omega, h1⟩ (by (simp only [SubF, go_sem]; (try simp only [go_sem]); repeat' (first | exact True.intro | with_reducible refine And.intro ?_ ?_ | rfl | omega))) (by omega)
  ·(simp only [go_sem] at hL ⊢)
   (repeat' (first | (with_reducible first | refine And.intro ?_ ?_ | refine aBl ?_ | (refine aS 6 [] ?_; intro K hK)) | ((with_reducible first | refine aGo ?_ | refine rP Ty_ok mixed 6 [0, 1, 4, 5] [.mid [pe 2, pe 3, pe 6, pe 7] 0, .one 8, .one 9] ?_); simp only [go_sem]) | ((with_reducible refine aCd ?_ ?_ (fun hb => ?_) (fun hb => ?_)); (iterate 2 simp only [go_sem]); all_goals (simp only [go_sem] at hb; try simp only [bls] at hb)) | ((iterate 6 try ((fail_if_success with_reducible refine hK _ ?_ ?_ ?_); clear hK K)); with_reducible refine hK _ ?_ ?_ ?_; rotate_left; (focus (simp only [go_sem]; exact rfl)); clear hK K) | exact aZ | fail))
   all_goals first | omega | skip
   rw [hres, z0z xs k (by omega), z0z ys k (by omega)]; rfl
def z6C (w : Int) : Net := ⟨[2, 0], [⟨0, [⟨0, 1⟩], [⟨1, 1⟩]⟩, ⟨1, [⟨1, 1⟩], [⟨0, w⟩]⟩]⟩
theorem zeY (w : Int) : ACalls Tryz.prog 102 [.one (.int .i64 w)] (.agg (z6C w).d) [] := by
 have e : (z6C w).d = [.list [[.int .i64 2], [.int .i64 0]], .list [[.int .i64 0, .list [[.int .i64 0, .int .i64 1]], .list [[.int .i64 1, .int .i64 1]]], [.int .i64 1, .list [[.int .i64 1, .int .i64 1]], .list [[.int .i64 0, .int .i64 w]]]]] := rfl
 rw [e]
 (refine ACalls.of_body Ty_ok mixed Tryz.func102 rfl (by kernel_rfl) Tryz.ntmps102 (by simp) (congrArg Array.toList Tryz.results102) ?_)
 simp only [z00]
 (repeat' (first | (with_reducible (refine aS 3 [] ?_; intro K hK)) | ((with_reducible refine aGo ?_); simp only [go_sem]) | ((iterate 6 try ((fail_if_success with_reducible refine hK _ ?_ ?_ ?_); clear hK K)); with_reducible refine hK _ ?_ ?_ ?_; rotate_left; (focus (simp only [go_sem]; exact rfl)); clear hK K) | fail))
end Go.Proofs.YtkjllcmpjghmkaaGreatDoor
