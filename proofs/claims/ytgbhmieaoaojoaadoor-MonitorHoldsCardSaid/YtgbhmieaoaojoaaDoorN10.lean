/-
 Contracts: the law's own functions: weight, sum, effect, check.
-/
import Derived.Test.YtgbhmieaoaojoaaDoorN9
set_option linter.unusedSimpArgs false
set_option linter.unusedVariables false
namespace Go.Proofs.YtgbhmieaoaojoaaDoor
open Go.Eng Go.RowKit
theorem sum_c (c : Con) (m : List Int) (hl : c.fac.length ≤ m.length) (hf : Sm 16 c.fac) (hm : Sm 65536 m) (hn : c.fac.length ≤ 1000) (hnm : m.length ≤ 1000000) : ACalls Tryd.prog 15 [.agg c.d, .one (.list (ints m))] (.one (.int .i64 (dot c.fac m))) [] := by
 (refine ACalls.of_body Ty_ok mixed Tryd.func15 rfl (by kernel_rfl) Tryd.ntmps15 (by simp) (congrArg Array.toList Tryd.results15) ?_)
 simp only [slotsOf, Con.d]
 (repeat' (first | (with_reducible first | exact True.intro | refine And.intro ?_ ?_ | refine aBl ?_ | (refine aS 7 [] ?_; intro K hK)) | ((with_reducible first | refine aGo ?_ | refine rD (id := 5) ?_); simp only [go_sem]) | ((with_reducible refine aCd ?_ ?_ (fun hb => ?_) (fun hb => ?_)); (iterate 2 simp only [go_sem]); all_goals (simp only [go_sem] at hb; try simp only [bls] at hb)) | ((iterate 6 try ((fail_if_success with_reducible refine hK _ ?_ ?_ ?_); clear hK K)); with_reducible refine hK _ ?_ ?_ ?_; rotate_left; (focus (simp only [go_sem]; exact rfl)); clear hK K) | (with_reducible refine aGs (fun hg0 => ?_) (fun hg0 => ?_) <;> first | (with_reducible first | exact aF1 hg0 | exact aF2 hg0) | (simp only [hg0, go_sem])) | (with_reducible refine aNk ?_; intro bnil hnil; try simp only []) | exact aZ | fail))
 refine awp_loop _ (by simp only [go_sem]; rfl) Nat (fun k => k ≤ c.fac.length) (fun k => [(5, .one (.int .i64 (dot (c.fac.take k) (m.take k)))), (6, .one (.int .i64 k))]) (fun _ H => H) (fun k => c.fac.length - k) 0 (by omega) ?_ ?_
 ·(simp only [SubF, go_sem]; (try simp only [go_sem]); repeat' (first | exact True.intro | with_reducible refine And.intro ?_ ?_ | rfl | omega))
 ·rintro k hk L hL
  have hp : ((k : Nat) : Int).toNat = k := by omega
  (simp only [go_sem] at hL ⊢)
  by_cases hlt : k < c.fac.length
  ·have e := dot_take c.fac m k hlt (by omega)
   have b0 := mul_bound (hf.get (by omega) k) (hm.get (by omega) k) (by omega) (by omega)
   have b1 := dot_fits (hf.take k) (hm.take k) (by simp; omega)
   (repeat' (first | (with_reducible first | exact True.intro | refine And.intro ?_ ?_ | refine aBl ?_ | (refine aS 7 [] ?_; intro K hK)) | ((with_reducible first | refine aGo ?_ | refine rD (id := 5) ?_); simp only [go_sem]) | ((with_reducible refine aCd ?_ ?_ (fun hb => ?_) (fun hb => ?_)); (iterate 2 simp only [go_sem]); all_goals (simp only [go_sem] at hb; try simp only [bls] at hb)) | ((iterate 6 try ((fail_if_success with_reducible refine hK _ ?_ ?_ ?_); clear hK K)); with_reducible refine hK _ ?_ ?_ ?_; rotate_left; (focus (simp only [go_sem]; exact rfl)); clear hK K) | (with_reducible refine aGs (fun hg0 => ?_) (fun hg0 => ?_) <;> first | (with_reducible first | exact aF1 hg0 | exact aF2 hg0) | (simp only [hg0, go_sem])) | (with_reducible refine aNk ?_; intro bnil hnil; try simp only []) | exact aZ | fail))
   ·rw [← e]
    exact hL _ (k + 1) (by omega) (by (simp only [SubF, go_sem]; (try simp only [go_sem]); repeat' (first | exact True.intro | with_reducible refine And.intro ?_ ?_ | rfl | omega))) (by omega)
  ·(repeat' (first | (with_reducible first | exact True.intro | refine And.intro ?_ ?_ | refine aBl ?_ | (refine aS 7 [] ?_; intro K hK)) | ((with_reducible first | refine aGo ?_ | refine rD (id := 5) ?_); simp only [go_sem]) | ((with_reducible refine aCd ?_ ?_ (fun hb => ?_) (fun hb => ?_)); (iterate 2 simp only [go_sem]); all_goals (simp only [go_sem] at hb; try simp only [bls] at hb)) | ((iterate 6 try ((fail_if_success with_reducible refine hK _ ?_ ?_ ?_); clear hK K)); with_reducible refine hK _ ?_ ?_ ?_; rotate_left; (focus (simp only [go_sem]; exact rfl)); clear hK K) | (with_reducible refine aGs (fun hg0 => ?_) (fun hg0 => ?_) <;> first | (with_reducible first | exact aF1 hg0 | exact aF2 hg0) | (simp only [hg0, go_sem])) | (with_reducible refine aNk ?_; intro bnil hnil; try simp only []) | exact aZ | fail))
   rw [List.take_of_length_le (by omega), show k = c.fac.length by omega, dot_prefix]
/-! the effect of a transition, place by place -/
end Go.Proofs.YtgbhmieaoaojoaaDoor
