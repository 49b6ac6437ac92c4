/-
 Contracts: the law's check, same, none, admissible.
-/
import Derived.Test.YtgbhmieaoaojoaaN10
set_option linter.unusedSimpArgs false
set_option linter.unusedVariables false
namespace Go.Proofs.Ytgbhmieaoaojoaa
open Go.Eng Go.RowKit
theorem beyond_c (n m : Int) (h : 0 ≤ m ∧ m ≤ 1000000) : ACalls Try.prog 23 [.one (.int .i64 n), .one (.int .i64 m)] (.one (.bool (largeB m n))) [] := by
 (refine ACalls.of_body Ty_ok mixed Try.func23 rfl (by kernel_rfl) Try.ntmps23 (by simp) (congrArg Array.toList Try.results23) ?_)
 simp only [slotsOf]
 (repeat' (first | (with_reducible first | exact True.intro | refine And.intro ?_ ?_ | refine aBl ?_ | (refine aS 5 [] ?_; intro K hK)) | ((with_reducible first | refine aGo ?_); simp only [go_sem]) | ((with_reducible refine aCd ?_ ?_ (fun hb => ?_) (fun hb => ?_)); (iterate 2 simp only [go_sem]); all_goals (simp only [go_sem] at hb; try simp only [bls] at hb)) | ((iterate 6 try ((fail_if_success with_reducible refine hK _ ?_ ?_ ?_); clear hK K)); with_reducible refine hK _ ?_ ?_ ?_; rotate_left; (focus (simp only [go_sem]; exact rfl)); clear hK K) | (with_reducible refine aGs (fun hg0 => ?_) (fun hg0 => ?_) <;> first | (with_reducible first | exact aF1 hg0 | exact aF2 hg0) | (simp only [hg0, go_sem])) | (with_reducible refine aNk ?_; intro bnil hnil; try simp only []) | exact aZ | fail))
 all_goals simp only [largeB]
 all_goals first | omega | skip
 simp only [Int.zero_sub]
 rw [Bool.or_comm]
theorem none_c (a : Net) (hf : a.Fits) : ACalls Try.prog 9 [.agg a.d] (.one (.bool (decide (a = Net.zero)))) [] := by
 have h1 := netEqual_c a Net.zero hf
 simp only [Net.d, Net.zero] at h1
 (refine ACalls.of_body Ty_ok mixed Try.func9 rfl (by kernel_rfl) Try.ntmps9 (by simp) (congrArg Array.toList Try.results9) ?_)
 simp only [slotsOf, Net.d]
 (repeat' (first | (with_reducible first | exact True.intro | refine And.intro ?_ ?_ | refine aBl ?_ | (refine aS 3 [] ?_; intro K hK)) | ((with_reducible first | refine aGo ?_); simp only [go_sem]) | ((with_reducible refine aCd ?_ ?_ (fun hb => ?_) (fun hb => ?_)); (iterate 2 simp only [go_sem]); all_goals (simp only [go_sem] at hb; try simp only [bls] at hb)) | ((iterate 6 try ((fail_if_success with_reducible refine hK _ ?_ ?_ ?_); clear hK K)); with_reducible refine hK _ ?_ ?_ ?_; rotate_left; (focus (simp only [go_sem]; exact rfl)); clear hK K) | ((first | (with_reducible first | refine xA ?_ | refine xD ?_ | refine xO ?_ | refine xR ?_ | refine xG ?_ | refine xH ?_ | refine xM ?_) | ((with_reducible refine gA ?_); refine xA ?_) | ((with_reducible refine gD ?_); refine xD ?_) | ((with_reducible refine gG ?_); refine xG ?_)); simp only [go_sem]) | (with_reducible refine aGs (fun hg0 => ?_) (fun hg0 => ?_) <;> first | (with_reducible first | exact aF1 hg0 | exact aF2 hg0) | (simp only [hg0, go_sem])) | (with_reducible refine aNk ?_; intro bnil hnil; try simp only []) | exact aZ | fail))
 all_goals first | rfl | skip
end Go.Proofs.Ytgbhmieaoaojoaa
