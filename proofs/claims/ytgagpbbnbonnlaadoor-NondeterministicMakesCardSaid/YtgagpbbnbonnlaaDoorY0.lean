/-
 Chapter 05: contracts of sets of numbers (taken together from chapter 01's C2 C4 C6 C8 C9 P1 P2).
-/
import Derived.Test.YtgagpbbnbonnlaaDoorN1
set_option linter.unusedSimpArgs false
set_option linter.unusedVariables false
namespace Go.Proofs.YtgagpbbnbonnlaaDoor
open Go.Eng Go.RowKit
def csFrom (m : Int) : List Int → Option Int → Int
 | [], _ => 0
 | x :: l, prev => if x < 0 ∨ m ≤ x then 2 else if (prev.any fun p => decide (x ≤ p)) = true then 5 else csFrom m l (some x)
def checkSet (xs : List Int) (m : Int) : Int := csFrom m xs none
def prevOf (xs : List Int) (k : Nat) : Option Int := if k = 0 then none else some (xs.getD (k - 1) 0)
theorem cs_step {xs : List Int} {m b : Int} {k : Nat} (hk : k < xs.length) (h : b = csFrom m (xs.drop k) (prevOf xs k)) :
  b = if xs.getD k 0 < 0 ∨ m ≤ xs.getD k 0 then 2 else if 0 < k ∧ xs.getD k 0 ≤ xs.getD (k - 1) 0 then 5 else csFrom m (xs.drop (k + 1)) (prevOf xs (k + 1)) := by
 rw [drop_getD xs k 0 hk] at h
 rw [h, csFrom]
 split
 ·rfl
 ·unfold prevOf
  by_cases h0 : k = 0
  ·subst h0; simp
  ·simp [h0]; split <;> split <;> first | rfl | omega
theorem toNat_pred (k : Nat) : ((k : Int) - 1).toNat = k - 1 := by omega
set_option maxHeartbeats 1000000 in
theorem CheckSet_c (xs : List Int) (m : Int) (hn : xs.length ≤ 9223372036854775807) : ACalls Tryd.prog 56 [.one (.list (ints xs)), .one (.int .i64 m)] (.one (.int .i64 (checkSet xs m))) [] := by
 (refine ACalls.of_body Ty_ok mixed Tryd.func56 rfl (by kernel_rfl) Tryd.ntmps56 (by simp) (congrArg Array.toList Tryd.results56) ?_)
 simp only [slotsOf]
 (repeat' (first | (with_reducible first | exact True.intro | refine And.intro ?_ ?_ | refine awp_block ?_ | ((first | refine awp_seq1 10 [] ?_ | refine awp_seq2 10 [] ?_ | refine awp_seq3 10 [] ?_ | refine awp_seq4 10 [] ?_ | refine awp_seq 10 [] ?_); intro K hK)) | ((with_reducible first | refine awp_reg ?_ | refine awp_exit ?_ | refine awp_skip ?_ | refine likeK_i ?_ | refine otWR_i ?_); simp only [go_sem]) | (with_reducible refine awp_ret ?_; simp only [retF, retM, retL, resV, resW, retO, resAV, AV.bor, D.bor, D.bor1, D.bor0, AV.flatOwn, D.flatOwn, D.flat, AV.tagged, D.tagged, AObj.plain, go_sem]) | ((with_reducible refine awp_cond' ?_ ?_ (fun hb => ?_) (fun hb => ?_)); (simp only [go_sem]); (simp only [go_sem]); all_goals (simp only [go_sem] at hb; try simp only [bls] at hb)) | ((iterate 6 try ((fail_if_success with_reducible refine hK _ ?_ ?_ ?_); clear hK K)); with_reducible refine hK _ ?_ ?_ ?_; rotate_left; (focus (simp only [go_sem]; exact rfl)); clear hK K) | (with_reducible refine gsplit_i (fun hg0 => ?_) (fun hg0 => ?_) <;> first | (with_reducible first | exact absurd hg0 Bool.false_ne_true | exact absurd hg0.symm Bool.false_ne_true) | (simp only [hg0, go_sem])) | (with_reducible refine nilK_i ?_; intro bnil hnil; try simp only []) | (omega; done) | (intro hv; (try simp only [bls] at hv); (try simp only [bls]); omega) | (intro hg; (simp only [hg, Bool.true_and, true_and, implies_true]; try (intro hg2; simp only [hg2, Bool.not_false, Bool.not_true])); done)))
 refine awp_loop _ (by simp only [go_sem]; rfl) Nat (fun k => k ≤ xs.length ∧ checkSet xs m = csFrom m (xs.drop k) (prevOf xs k)) (fun k => [(9, .one (.int .i64 k))]) (fun _ H => H) (fun k => xs.length - k) 0 ⟨by omega, by simp [checkSet, prevOf]⟩ ?_ ?_
 ·(simp only [SubF, go_sem]; (try simp only [go_sem]); repeat' (first | exact True.intro | with_reducible refine And.intro ?_ ?_ | rfl | omega))
 ·rintro k ⟨hk, hres⟩ L hL
  (simp only [go_sem] at hL ⊢)
  (repeat' (first | (with_reducible first | exact True.intro | refine And.intro ?_ ?_ | refine awp_block ?_ | ((first | refine awp_seq1 10 [] ?_ | refine awp_seq2 10 [] ?_ | refine awp_seq3 10 [] ?_ | refine awp_seq4 10 [] ?_ | refine awp_seq 10 [] ?_); intro K hK)) | ((with_reducible first | refine awp_reg ?_ | refine awp_exit ?_ | refine awp_skip ?_ | refine likeK_i ?_ | refine otWR_i ?_); simp only [go_sem]) | (with_reducible refine awp_ret ?_; simp only [retF, retM, retL, resV, resW, retO, resAV, AV.bor, D.bor, D.bor1, D.bor0, AV.flatOwn, D.flatOwn, D.flat, AV.tagged, D.tagged, AObj.plain, go_sem]) | ((with_reducible refine awp_cond' ?_ ?_ (fun hb => ?_) (fun hb => ?_)); (simp only [go_sem]); (simp only [go_sem]); all_goals (simp only [go_sem] at hb; try simp only [bls] at hb)) | ((iterate 6 try ((fail_if_success with_reducible refine hK _ ?_ ?_ ?_); clear hK K)); with_reducible refine hK _ ?_ ?_ ?_; rotate_left; (focus (simp only [go_sem]; exact rfl)); clear hK K) | (with_reducible refine gsplit_i (fun hg0 => ?_) (fun hg0 => ?_) <;> first | (with_reducible first | exact absurd hg0 Bool.false_ne_true | exact absurd hg0.symm Bool.false_ne_true) | (simp only [hg0, go_sem])) | (with_reducible refine nilK_i ?_; intro bnil hnil; try simp only []) | (omega; done) | (intro hv; (try simp only [bls] at hv); (try simp only [bls]); omega) | (intro hg; (simp only [hg, Bool.true_and, true_and, implies_true]; try (intro hg2; simp only [hg2, Bool.not_false, Bool.not_true])); done)))
  ·rw [cs_step (by omega) hres, if_pos (by assumption)]
  ·rw [toNat_pred] at hb
   rw [cs_step (by omega) hres, if_neg (by omega), if_pos (by omega)]
  ·rw [toNat_pred] at hb
   have h1 := cs_step (by omega) hres
   rw [if_neg (by omega), if_neg (by omega)] at h1
   exact hL _ (k + 1) ⟨by omega, h1⟩ (by (simp only [SubF, go_sem]; (try simp only [go_sem]); repeat' (first | exact True.intro | with_reducible refine And.intro ?_ ?_ | rfl | omega))) (by omega)
  ·rw [hres, drop_end xs k (by omega)]; rfl
set_option maxHeartbeats 1000000 in
theorem refCheckSet_c (xs : List Int) (m : Int) (hn : xs.length ≤ 9223372036854775807) : ACalls Tryd.prog 21 [.one (.list (ints xs)), .one (.int .i64 m)] (.one (.int .i64 (checkSet xs m))) [] := by
 (refine ACalls.of_body Ty_ok mixed Tryd.func21 rfl (by kernel_rfl) Tryd.ntmps21 (by simp) (congrArg Array.toList Tryd.results21) ?_)
 simp only [slotsOf]
 (repeat' (first | (with_reducible first | exact True.intro | refine And.intro ?_ ?_ | refine awp_block ?_ | ((first | refine awp_seq1 6 [] ?_ | refine awp_seq2 6 [] ?_ | refine awp_seq3 6 [] ?_ | refine awp_seq4 6 [] ?_ | refine awp_seq 6 [] ?_); intro K hK)) | ((with_reducible first | refine awp_reg ?_ | refine awp_exit ?_ | refine awp_skip ?_ | refine likeK_i ?_ | refine otWR_i ?_ | refine rD (id := 6) ?_); simp only [go_sem]) | (with_reducible refine awp_ret ?_; simp only [retF, retM, retL, resV, resW, retO, resAV, AV.bor, D.bor, D.bor1, D.bor0, AV.flatOwn, D.flatOwn, D.flat, AV.tagged, D.tagged, AObj.plain, go_sem]) | ((with_reducible refine awp_cond' ?_ ?_ (fun hb => ?_) (fun hb => ?_)); (simp only [go_sem]); (simp only [go_sem]); all_goals (simp only [go_sem] at hb; try simp only [bls] at hb)) | ((iterate 6 try ((fail_if_success with_reducible refine hK _ ?_ ?_ ?_); clear hK K)); with_reducible refine hK _ ?_ ?_ ?_; rotate_left; (focus (simp only [go_sem]; exact rfl)); clear hK K) | (with_reducible refine gsplit_i (fun hg0 => ?_) (fun hg0 => ?_) <;> first | (with_reducible first | exact absurd hg0 Bool.false_ne_true | exact absurd hg0.symm Bool.false_ne_true) | (simp only [hg0, go_sem])) | (with_reducible refine nilK_i ?_; intro bnil hnil; try simp only []) | (omega; done) | (intro hv; (try simp only [bls] at hv); (try simp only [bls]); omega) | (intro hg; (simp only [hg, Bool.true_and, true_and, implies_true]; try (intro hg2; simp only [hg2, Bool.not_false, Bool.not_true])); done)))
 refine awp_loop _ (by simp only [go_sem]; rfl) Nat (fun k => k ≤ xs.length ∧ checkSet xs m = csFrom m (xs.drop k) (prevOf xs k)) (fun k => [(5, .one (.int .i64 k))]) (fun _ H => H) (fun k => xs.length - k) 0 ⟨by omega, by simp [checkSet, prevOf]⟩ ?_ ?_
 ·(simp only [SubF, go_sem]; (try simp only [go_sem]); repeat' (first | exact True.intro | with_reducible refine And.intro ?_ ?_ | rfl | omega))
 ·rintro k ⟨hk, hres⟩ L hL
  (simp only [go_sem] at hL ⊢)
  (repeat' (first | (with_reducible first | exact True.intro | refine And.intro ?_ ?_ | refine awp_block ?_ | ((first | refine awp_seq1 6 [] ?_ | refine awp_seq2 6 [] ?_ | refine awp_seq3 6 [] ?_ | refine awp_seq4 6 [] ?_ | refine awp_seq 6 [] ?_); intro K hK)) | ((with_reducible first | refine awp_reg ?_ | refine awp_exit ?_ | refine awp_skip ?_ | refine likeK_i ?_ | refine otWR_i ?_ | refine rD (id := 6) ?_); simp only [go_sem]) | (with_reducible refine awp_ret ?_; simp only [retF, retM, retL, resV, resW, retO, resAV, AV.bor, D.bor, D.bor1, D.bor0, AV.flatOwn, D.flatOwn, D.flat, AV.tagged, D.tagged, AObj.plain, go_sem]) | ((with_reducible refine awp_cond' ?_ ?_ (fun hb => ?_) (fun hb => ?_)); (simp only [go_sem]); (simp only [go_sem]); all_goals (simp only [go_sem] at hb; try simp only [bls] at hb)) | ((iterate 6 try ((fail_if_success with_reducible refine hK _ ?_ ?_ ?_); clear hK K)); with_reducible refine hK _ ?_ ?_ ?_; rotate_left; (focus (simp only [go_sem]; exact rfl)); clear hK K) | (with_reducible refine gsplit_i (fun hg0 => ?_) (fun hg0 => ?_) <;> first | (with_reducible first | exact absurd hg0 Bool.false_ne_true | exact absurd hg0.symm Bool.false_ne_true) | (simp only [hg0, go_sem])) | (with_reducible refine nilK_i ?_; intro bnil hnil; try simp only []) | (omega; done) | (intro hv; (try simp only [bls] at hv); (try simp only [bls]); omega) | (intro hg; (simp only [hg, Bool.true_and, true_and, implies_true]; try (intro hg2; simp only [hg2, Bool.not_false, Bool.not_true])); done)))
  ·rw [cs_step (by omega) hres, if_pos (by assumption)]
  ·rw [toNat_pred] at hb
   rw [cs_step (by omega) hres, if_neg (by omega), if_pos (by omega)]
  ·rw [toNat_pred] at hb
   have h1 := cs_step (by omega) hres
   rw [if_neg (by omega), if_neg (by omega)] at h1
   exact hL _ (k + 1) ⟨by omega, h1⟩ (by (simp only [SubF, go_sem]; (try simp only [go_sem]); repeat' (first | exact True.intro | with_reducible refine And.intro ?_ ?_ | rfl | omega))) (by omega)
  ·rw [hres, drop_end xs k (by omega)]; rfl
theorem same_step {xs ys : List Int} {b : Bool} {k : Nat} (hl : xs.length = ys.length) (hk : k < xs.length) (h : b = decide (xs.drop k = ys.drop k)) : b = (decide (xs.getD k 0 = ys.getD k 0) && decide (xs.drop (k + 1) = ys.drop (k + 1))) := by
 rw [drop_getD xs k 0 hk, drop_getD ys k 0 (by omega)] at h
 rw [h, Bool.eq_iff_iff]
 simp
set_option maxHeartbeats 1000000 in
theorem Same_c (xs ys : List Int) (hn : xs.length ≤ 9223372036854775807) : ACalls Tryd.prog 18 [.one (.list (ints xs)), .one (.list (ints ys))] (.one (.bool (decide (xs = ys)))) [] := by
 (refine ACalls.of_body Ty_ok mixed Tryd.func18 rfl (by kernel_rfl) Tryd.ntmps18 (by simp) (congrArg Array.toList Tryd.results18) ?_)
 simp only [slotsOf]
 (repeat' (first | (with_reducible first | exact True.intro | refine And.intro ?_ ?_ | refine awp_block ?_ | ((first | refine awp_seq1 6 [] ?_ | refine awp_seq2 6 [] ?_ | refine awp_seq3 6 [] ?_ | refine awp_seq4 6 [] ?_ | refine awp_seq 6 [] ?_); intro K hK)) | ((with_reducible first | refine awp_reg ?_ | refine awp_exit ?_ | refine awp_skip ?_ | refine likeK_i ?_ | refine otWR_i ?_ | refine rD (id := 6) ?_); simp only [go_sem]) | (with_reducible refine awp_ret ?_; simp only [retF, retM, retL, resV, resW, retO, resAV, AV.bor, D.bor, D.bor1, D.bor0, AV.flatOwn, D.flatOwn, D.flat, AV.tagged, D.tagged, AObj.plain, go_sem]) | ((with_reducible refine awp_cond' ?_ ?_ (fun hb => ?_) (fun hb => ?_)); (simp only [go_sem]); (simp only [go_sem]); all_goals (simp only [go_sem] at hb; try simp only [bls] at hb)) | ((iterate 6 try ((fail_if_success with_reducible refine hK _ ?_ ?_ ?_); clear hK K)); with_reducible refine hK _ ?_ ?_ ?_; rotate_left; (focus (simp only [go_sem]; exact rfl)); clear hK K) | (with_reducible refine gsplit_i (fun hg0 => ?_) (fun hg0 => ?_) <;> first | (with_reducible first | exact absurd hg0 Bool.false_ne_true | exact absurd hg0.symm Bool.false_ne_true) | (simp only [hg0, go_sem])) | (with_reducible refine nilK_i ?_; intro bnil hnil; try simp only []) | (omega; done) | (intro hv; (try simp only [bls] at hv); (try simp only [bls]); omega) | (intro hg; (simp only [hg, Bool.true_and, true_and, implies_true]; try (intro hg2; simp only [hg2, Bool.not_false, Bool.not_true])); done)))
 ·have : xs ≠ ys := by rintro rfl; omega
  simp [this]
 refine awp_loop _ (by simp only [go_sem]; rfl) Nat (fun k => k ≤ xs.length ∧ decide (xs = ys) = decide (xs.drop k = ys.drop k)) (fun k => [(5, .one (.int .i64 k))]) (fun _ H => H) (fun k => xs.length - k) 0 ⟨by omega, by simp⟩ ?_ ?_
 ·(simp only [SubF, go_sem]; (try simp only [go_sem]); repeat' (first | exact True.intro | with_reducible refine And.intro ?_ ?_ | rfl | omega))
 ·rintro k ⟨hk, hres⟩ L hL
  (simp only [go_sem] at hL ⊢)
  (repeat' (first | (with_reducible first | exact True.intro | refine And.intro ?_ ?_ | refine awp_block ?_ | ((first | refine awp_seq1 6 [] ?_ | refine awp_seq2 6 [] ?_ | refine awp_seq3 6 [] ?_ | refine awp_seq4 6 [] ?_ | refine awp_seq 6 [] ?_); intro K hK)) | ((with_reducible first | refine awp_reg ?_ | refine awp_exit ?_ | refine awp_skip ?_ | refine likeK_i ?_ | refine otWR_i ?_ | refine rD (id := 6) ?_); simp only [go_sem]) | (with_reducible refine awp_ret ?_; simp only [retF, retM, retL, resV, resW, retO, resAV, AV.bor, D.bor, D.bor1, D.bor0, AV.flatOwn, D.flatOwn, D.flat, AV.tagged, D.tagged, AObj.plain, go_sem]) | ((with_reducible refine awp_cond' ?_ ?_ (fun hb => ?_) (fun hb => ?_)); (simp only [go_sem]); (simp only [go_sem]); all_goals (simp only [go_sem] at hb; try simp only [bls] at hb)) | ((iterate 6 try ((fail_if_success with_reducible refine hK _ ?_ ?_ ?_); clear hK K)); with_reducible refine hK _ ?_ ?_ ?_; rotate_left; (focus (simp only [go_sem]; exact rfl)); clear hK K) | (with_reducible refine gsplit_i (fun hg0 => ?_) (fun hg0 => ?_) <;> first | (with_reducible first | exact absurd hg0 Bool.false_ne_true | exact absurd hg0.symm Bool.false_ne_true) | (simp only [hg0, go_sem])) | (with_reducible refine nilK_i ?_; intro bnil hnil; try simp only []) | (omega; done) | (intro hv; (try simp only [bls] at hv); (try simp only [bls]); omega) | (intro hg; (simp only [hg, Bool.true_and, true_and, implies_true]; try (intro hg2; simp only [hg2, Bool.not_false, Bool.not_true])); done)))
  ·rw [same_step (by omega) (by omega) hres]; simp_all
  ·have h1 := same_step (by omega) (by omega) hres
   simp only [hb, decide_true, Bool.true_and] at h1
   exact hL _ (k + 1) ⟨by omega, h1⟩ (by (simp only [SubF, go_sem]; (try simp only [go_sem]); repeat' (first | exact True.intro | with_reducible refine And.intro ?_ ?_ | rfl | omega))) (by omega)
  ·rw [hres, drop_end xs k (by omega), drop_end ys k (by omega)]; rfl
def bitsL (m k : Nat) : List Int := ((List.range k).filter fun i => m.testBit i).map Int.ofNat
theorem bitsL_succ (m k : Nat) : bitsL m (k + 1) = bitsL m k ++ if m.testBit k = true then [(k : Int)] else [] := by
 simp only [bitsL, List.range_succ, List.filter_append, List.map_append]
 congr 1
 by_cases h : m.testBit k = true <;> simp [List.filter_cons, h]
theorem bitsL_length (m k : Nat) : (bitsL m k).length ≤ k := by
 simp only [bitsL, List.length_map]
 exact Nat.le_trans (List.length_filter_le _ _) (by simp)
def setOf (m : Nat) : List Int := bitsL m 32
theorem testBit_tmod (m k : Nat) : ((((m / 2 ^ k : Nat) : Int).tmod 2) = 1) ↔ m.testBit k = true := by
 rw [Nat.testBit_eq_decide_div_mod_eq, decide_eq_true_iff, Int.tmod_eq_emod_of_nonneg (Int.natCast_nonneg _)]
 generalize m / 2 ^ k = q
 omega
theorem half_pow (m k : Nat) : (((m / 2 ^ k : Nat) : Int)).tdiv 2 = ((m / 2 ^ (k + 1) : Nat) : Int) := by
 rw [Int.tdiv_eq_ediv_of_nonneg (Int.natCast_nonneg _), Nat.pow_succ, ← Nat.div_div_eq_div_mul]
 generalize m / 2 ^ k = q
 omega
set_option maxHeartbeats 4000000 in
theorem refSet_c (m : Nat) (hm : m < 4294967296) : ACalls Tryd.prog 47 [.one (.int .u32 m)] (.one (.list (ints (setOf m)))) [] := by
 (refine ACalls.of_body Ty_ok mixed Tryd.func47 rfl (by kernel_rfl) Tryd.ntmps47 (by simp) (congrArg Array.toList Tryd.results47) ?_)
 simp only [slotsOf]
 (repeat' (first | (with_reducible first | exact True.intro | refine And.intro ?_ ?_ | refine awp_block ?_ | ((first | refine awp_seq1 5 [] ?_ | refine awp_seq2 5 [] ?_ | refine awp_seq3 5 [] ?_ | refine awp_seq4 5 [] ?_ | refine awp_seq 5 [] ?_); intro K hK)) | ((with_reducible first | refine awp_reg ?_ | refine awp_exit ?_ | refine awp_skip ?_ | refine likeK_i ?_ | refine otWR_i ?_); simp only [go_sem]) | (with_reducible refine awp_ret ?_; simp only [retF, retM, retL, resV, resW, retO, resAV, AV.bor, D.bor, D.bor1, D.bor0, AV.flatOwn, D.flatOwn, D.flat, AV.tagged, D.tagged, AObj.plain, go_sem]) | ((with_reducible refine awp_cond' ?_ ?_ (fun hb => ?_) (fun hb => ?_)); (simp only [go_sem]); (simp only [go_sem]); all_goals (simp only [go_sem] at hb; try simp only [bls] at hb)) | ((iterate 6 try ((fail_if_success with_reducible refine hK _ ?_ ?_ ?_); clear hK K)); with_reducible refine hK _ ?_ ?_ ?_; rotate_left; (focus (simp only [go_sem]; exact rfl)); clear hK K) | (with_reducible refine gsplit_i (fun hg0 => ?_) (fun hg0 => ?_) <;> first | (with_reducible first | exact absurd hg0 Bool.false_ne_true | exact absurd hg0.symm Bool.false_ne_true) | (simp only [hg0, go_sem])) | (with_reducible refine nilK_i ?_; intro bnil hnil; try simp only []) | (omega; done) | (intro hv; (try simp only [bls] at hv); (try simp only [bls]); omega) | (intro hg; (simp only [hg, Bool.true_and, true_and, implies_true]; try (intro hg2; simp only [hg2, Bool.not_false, Bool.not_true])); done)))
 refine awp_loop _ (by simp only [go_sem]; rfl) Nat (fun k => k ≤ 32) (fun k => [(0, .one (.int .u32 ((m / 2 ^ k : Nat) : Int))), (3, .one (.own 1)), (4, .one (.int .i64 k))]) (fun k H => [.row 3 1 [], .row 3 1 (ints (bitsL m k))]) (fun k => 32 - k) 0 (by omega) ?_ ?_
 ·(simp only [SubF, go_sem]; (try simp only [go_sem]); repeat' (first | exact True.intro | with_reducible refine And.intro ?_ ?_ | rfl | omega))
 ·rintro k hk L hL
  have hlen := bitsL_length m k
  have hle : m / 2 ^ (k + 1) ≤ m := Nat.div_le_self _ _
  have hq : 0 ≤ (((m / 2 ^ k : Nat) : Int)).tdiv 2 ∧ (((m / 2 ^ k : Nat) : Int)).tdiv 2 < 4294967296 := by
   rw [half_pow]
   exact ⟨Int.natCast_nonneg _, Int.ofNat_lt.2 (Nat.lt_of_le_of_lt hle hm)⟩
  (simp only [go_sem] at hL ⊢)
  (repeat' (first | (with_reducible first | exact True.intro | refine And.intro ?_ ?_ | refine awp_block ?_ | ((first | refine awp_seq1 5 [] ?_ | refine awp_seq2 5 [] ?_ | refine awp_seq3 5 [] ?_ | refine awp_seq4 5 [] ?_ | refine awp_seq 5 [] ?_); intro K hK)) | ((with_reducible first | refine awp_reg ?_ | refine awp_exit ?_ | refine awp_skip ?_ | refine likeK_i ?_ | refine otWR_i ?_); simp only [go_sem]) | (with_reducible refine awp_ret ?_; simp only [retF, retM, retL, resV, resW, retO, resAV, AV.bor, D.bor, D.bor1, D.bor0, AV.flatOwn, D.flatOwn, D.flat, AV.tagged, D.tagged, AObj.plain, go_sem]) | ((with_reducible refine awp_cond' ?_ ?_ (fun hb => ?_) (fun hb => ?_)); (simp only [go_sem]); (simp only [go_sem]); all_goals (simp only [go_sem] at hb; try simp only [bls] at hb)) | ((iterate 6 try ((fail_if_success with_reducible refine hK _ ?_ ?_ ?_); clear hK K)); with_reducible refine hK _ ?_ ?_ ?_; rotate_left; (focus (simp only [go_sem]; exact rfl)); clear hK K) | (with_reducible refine gsplit_i (fun hg0 => ?_) (fun hg0 => ?_) <;> first | (with_reducible first | exact absurd hg0 Bool.false_ne_true | exact absurd hg0.symm Bool.false_ne_true) | (simp only [hg0, go_sem])) | (with_reducible refine nilK_i ?_; intro bnil hnil; try simp only []) | (omega; done) | (intro hv; (try simp only [bls] at hv); (try simp only [bls]); omega) | (intro hg; (simp only [hg, Bool.true_and, true_and, implies_true]; try (intro hg2; simp only [hg2, Bool.not_false, Bool.not_true])); done)))
  ·rw [testBit_tmod] at hb
   have e := bitsL_succ m k
   rw [if_pos hb] at e
   simp only [half_pow, ints_one, ints_append, ← e]
   exact hL _ (k + 1) (by omega) (by (simp only [SubF, go_sem]; (try simp only [go_sem]); repeat' (first | exact True.intro | with_reducible refine And.intro ?_ ?_ | rfl | omega))) (by omega)
  ·rw [testBit_tmod] at hb
   have e := bitsL_succ m k
   rw [if_neg hb, List.append_nil] at e
   simp only [half_pow, ← e]
   exact hL _ (k + 1) (by omega) (by (simp only [SubF, go_sem]; (try simp only [go_sem]); repeat' (first | exact True.intro | with_reducible refine And.intro ?_ ?_ | rfl | omega))) (by omega)
  ·have : k = 32 := by omega
   subst this; rfl
attribute [local go_sem] List.take_length
def mergeB (keep : Bool → Bool → Bool) : List Int → List Int → List Int
 | [], [] => []
 | x :: a, [] => (if keep true false = true then [x] else []) ++ mergeB keep a []
 | [], y :: b => (if keep false true = true then [y] else []) ++ mergeB keep [] b
 | x :: a, y :: b => if x < y then (if keep true false = true then [x] else []) ++ mergeB keep a (y :: b) else if y < x then (if keep false true = true then [y] else []) ++ mergeB keep (x :: a) b else (if keep true true = true then [x] else []) ++ mergeB keep a b
termination_by a b => a.length + b.length
def iA (u v : List Int) : Bool := decide (0 < (u.length : Int)) && ((v.length : Int) == 0 || decide (u.getD 0 0 ≤ v.getD 0 0))
def iB (u v : List Int) : Bool := decide (0 < (v.length : Int)) && ((u.length : Int) == 0 || decide (v.getD 0 0 ≤ u.getD 0 0))
theorem iA_cons (x y : Int) (u v : List Int) : iA (x :: u) (y :: v) = decide (x ≤ y) := by
 have h : 0 < (((x :: u).length : Nat) : Int) := by
  simp only [List.length_cons]
  omega
 have h2 : ((((y :: v).length : Nat) : Int) == 0) = false := by
  rw [beq_eq_false_iff_ne]
  simp only [List.length_cons]
  omega
 simp only [iA, decide_eq_true h, h2]; rfl
theorem iB_cons (x y : Int) (u v : List Int) : iB (x :: u) (y :: v) = decide (y ≤ x) := by
 have h : 0 < (((y :: v).length : Nat) : Int) := by
  simp only [List.length_cons]
  omega
 have h2 : ((((x :: u).length : Nat) : Int) == 0) = false := by
  rw [beq_eq_false_iff_ne]
  simp only [List.length_cons]
  omega
 simp only [iB, decide_eq_true h, h2]; rfl
theorem merge_step (keep : Bool → Bool → Bool) (u v : List Int) (h : ¬ (u.length = 0 ∧ v.length = 0)) :
  mergeB keep u v = (if keep (iA u v) (iB u v) = true then [if iB u v = true then v.getD 0 0 else u.getD 0 0] else []) ++ mergeB keep (if iA u v = true then u.drop 1 else u) (if iB u v = true then v.drop 1 else v) := by
 cases u with
 | nil =>
  cases v with
  | nil => simp at h
  | cons y v =>
   have e1 : iA [] (y :: v) = false := rfl
   have e2 : iB [] (y :: v) = true := by simp [iB]
   rw [mergeB, e1, e2]; simp
 | cons x u =>
  cases v with
  | nil =>
   have e1 : iA (x :: u) [] = true := by simp [iA]
   have e2 : iB (x :: u) [] = false := rfl
   rw [mergeB, e1, e2]; simp
  | cons y v =>
   rw [mergeB, iA_cons, iB_cons]
   by_cases h1 : x < y
   ·have a : x ≤ y := by omega
    have b : ¬ y ≤ x := by omega
    simp [h1, a, b]
   ·by_cases h2 : y < x
    ·have a : ¬ x ≤ y := by omega
     have b : y ≤ x := by omega
     simp [h1, h2, a, b]
    ·have a : x = y := by omega
     subst a
     simp
theorem mergeB_nil (keep : Bool → Bool → Bool) (u v : List Int) (h : u.length = 0 ∧ v.length = 0) : mergeB keep u v = [] := by
 rw [List.length_eq_zero_iff.1 h.1, List.length_eq_zero_iff.1 h.2, mergeB]
theorem mergeB_length (keep : Bool → Bool → Bool) (u v : List Int) : (mergeB keep u v).length ≤ u.length + v.length := by
 fun_induction mergeB keep u v <;> simp_all <;> (try split) <;> simp_all <;> omega
theorem Int1_c (p q : Bool) : ACalls Tryd.prog 94 [.one (.bool p), .one (.bool q)] (.one (.bool (p && q))) [] := by
 (refine ACalls.of_body Ty_ok mixed Tryd.func94 rfl (by kernel_rfl) Tryd.ntmps94 (by simp) (congrArg Array.toList Tryd.results94) ?_)
 simp only [slotsOf]
 (repeat' (first | (with_reducible first | exact True.intro | refine And.intro ?_ ?_ | refine awp_block ?_ | ((first | refine awp_seq1 5 [] ?_ | refine awp_seq2 5 [] ?_ | refine awp_seq3 5 [] ?_ | refine awp_seq4 5 [] ?_ | refine awp_seq 5 [] ?_); intro K hK)) | ((with_reducible first | refine awp_reg ?_ | refine awp_exit ?_ | refine awp_skip ?_ | refine likeK_i ?_ | refine otWR_i ?_); simp only [go_sem]) | (with_reducible refine awp_ret ?_; simp only [retF, retM, retL, resV, resW, retO, resAV, AV.bor, D.bor, D.bor1, D.bor0, AV.flatOwn, D.flatOwn, D.flat, AV.tagged, D.tagged, AObj.plain, go_sem]) | ((with_reducible refine awp_cond' ?_ ?_ (fun hb => ?_) (fun hb => ?_)); (simp only [go_sem]); (simp only [go_sem]); all_goals (simp only [go_sem] at hb; try simp only [bls] at hb)) | ((iterate 6 try ((fail_if_success with_reducible refine hK _ ?_ ?_ ?_); clear hK K)); with_reducible refine hK _ ?_ ?_ ?_; rotate_left; (focus (simp only [go_sem]; exact rfl)); clear hK K) | (with_reducible refine gsplit_i (fun hg0 => ?_) (fun hg0 => ?_) <;> first | (with_reducible first | exact absurd hg0 Bool.false_ne_true | exact absurd hg0.symm Bool.false_ne_true) | (simp only [hg0, go_sem])) | (with_reducible refine nilK_i ?_; intro bnil hnil; try simp only []) | (omega; done) | (intro hv; (try simp only [bls] at hv); (try simp only [bls]); omega) | (intro hg; (simp only [hg, Bool.true_and, true_and, implies_true]; try (intro hg2; simp only [hg2, Bool.not_false, Bool.not_true])); done)))
theorem Min1_c (p q : Bool) : ACalls Tryd.prog 86 [.one (.bool p), .one (.bool q)] (.one (.bool (p && !q))) [] := by
 (refine ACalls.of_body Ty_ok mixed Tryd.func86 rfl (by kernel_rfl) Tryd.ntmps86 (by simp) (congrArg Array.toList Tryd.results86) ?_)
 simp only [slotsOf]
 (repeat' (first | (with_reducible first | exact True.intro | refine And.intro ?_ ?_ | refine awp_block ?_ | ((first | refine awp_seq1 5 [] ?_ | refine awp_seq2 5 [] ?_ | refine awp_seq3 5 [] ?_ | refine awp_seq4 5 [] ?_ | refine awp_seq 5 [] ?_); intro K hK)) | ((with_reducible first | refine awp_reg ?_ | refine awp_exit ?_ | refine awp_skip ?_ | refine likeK_i ?_ | refine otWR_i ?_); simp only [go_sem]) | (with_reducible refine awp_ret ?_; simp only [retF, retM, retL, resV, resW, retO, resAV, AV.bor, D.bor, D.bor1, D.bor0, AV.flatOwn, D.flatOwn, D.flat, AV.tagged, D.tagged, AObj.plain, go_sem]) | ((with_reducible refine awp_cond' ?_ ?_ (fun hb => ?_) (fun hb => ?_)); (simp only [go_sem]); (simp only [go_sem]); all_goals (simp only [go_sem] at hb; try simp only [bls] at hb)) | ((iterate 6 try ((fail_if_success with_reducible refine hK _ ?_ ?_ ?_); clear hK K)); with_reducible refine hK _ ?_ ?_ ?_; rotate_left; (focus (simp only [go_sem]; exact rfl)); clear hK K) | (with_reducible refine gsplit_i (fun hg0 => ?_) (fun hg0 => ?_) <;> first | (with_reducible first | exact absurd hg0 Bool.false_ne_true | exact absurd hg0.symm Bool.false_ne_true) | (simp only [hg0, go_sem])) | (with_reducible refine nilK_i ?_; intro bnil hnil; try simp only []) | (omega; done) | (intro hv; (try simp only [bls] at hv); (try simp only [bls]); omega) | (intro hg; (simp only [hg, Bool.true_and, true_and, implies_true]; try (intro hg2; simp only [hg2, Bool.not_false, Bool.not_true])); done)))
set_option maxHeartbeats 8000000 in
theorem merge_c (a b : List Int) (f : FuncId) (keep : Bool → Bool → Bool) (hn : a.length + b.length ≤ 1000000) (hp : ∀ p q : Bool, ACalls Tryd.prog f [.one (.bool p), .one (.bool q)] (.one (.bool (keep p q))) []) :
  ACalls Tryd.prog 84 [.one (.list (ints a)), .one (.list (ints b)), .one (.clo f [])] (.one (.list (ints (mergeB keep a b)))) [] := by
 (refine ACalls.of_body Ty_ok mixed Tryd.func84 rfl (by kernel_rfl) Tryd.ntmps84 (by simp) (congrArg Array.toList Tryd.results84) ?_)
 simp only [slotsOf]
 (repeat' (first | (with_reducible first | exact True.intro | refine And.intro ?_ ?_ | refine awp_block ?_ | ((first | refine awp_seq1 11 [] ?_ | refine awp_seq2 11 [] ?_ | refine awp_seq3 11 [] ?_ | refine awp_seq4 11 [] ?_ | refine awp_seq 11 [] ?_); intro K hK)) | ((with_reducible first | refine awp_reg ?_ | refine awp_exit ?_ | refine awp_skip ?_ | refine likeK_i ?_ | refine otWR_i ?_ | refine rD (id := 3) ?_ | refine rD (id := 4) ?_ | refine rD (id := 7) ?_ | refine rD (id := 9) ?_); simp only [go_sem]) | (with_reducible refine awp_ret ?_; simp only [retF, retM, retL, resV, resW, retO, resAV, AV.bor, D.bor, D.bor1, D.bor0, AV.flatOwn, D.flatOwn, D.flat, AV.tagged, D.tagged, AObj.plain, go_sem]) | ((with_reducible refine awp_cond' ?_ ?_ (fun hb => ?_) (fun hb => ?_)); (simp only [go_sem]); (simp only [go_sem]); all_goals (simp only [go_sem] at hb; try simp only [bls] at hb)) | ((iterate 6 try ((fail_if_success with_reducible refine hK _ ?_ ?_ ?_); clear hK K)); with_reducible refine hK _ ?_ ?_ ?_; rotate_left; (focus (simp only [go_sem]; exact rfl)); clear hK K) | (with_reducible refine gsplit_i (fun hg0 => ?_) (fun hg0 => ?_) <;> first | (with_reducible first | exact absurd hg0 Bool.false_ne_true | exact absurd hg0.symm Bool.false_ne_true) | (simp only [hg0, go_sem])) | (with_reducible refine nilK_i ?_; intro bnil hnil; try simp only []) | (omega; done) | (intro hv; (try simp only [bls] at hv); (try simp only [bls]); omega) | (intro hg; (simp only [hg, Bool.true_and, true_and, implies_true]; try (intro hg2; simp only [hg2, Bool.not_false, Bool.not_true])); done)))
 refine awp_loop _ (by simp only [go_sem]; rfl) (List Int × List Int × List Int) (fun s => mergeB keep a b = s.2.2 ++ mergeB keep s.1 s.2.1 ∧ s.2.2.length + s.1.length + s.2.1.length ≤ a.length + b.length)
  (fun s => [(0, .one (.list (ints s.1))), (1, .one (.list (ints s.2.1))), (7, .one (.own 1))]) (fun s _ => [.row 3 1 [], .row 3 1 (ints s.2.2)]) (fun s => s.1.length + s.2.1.length) (a, b, []) ⟨by simp, by simp⟩ ?_ ?_
 ·(simp only [SubF, go_sem]; (try simp only [go_sem]); repeat' (first | exact True.intro | with_reducible refine And.intro ?_ ?_ | rfl | omega))
 ·rintro ⟨u, v, out⟩ ⟨hres, hlen⟩ L hL
  simp only at hres hlen
  (simp only [go_sem] at hL ⊢)
  (repeat' (first | (with_reducible first | exact True.intro | refine And.intro ?_ ?_ | refine awp_block ?_ | ((first | refine awp_seq1 11 [] ?_ | refine awp_seq2 11 [] ?_ | refine awp_seq3 11 [] ?_ | refine awp_seq4 11 [] ?_ | refine awp_seq 11 [] ?_); intro K hK)) | ((with_reducible first | refine awp_reg ?_ | refine awp_exit ?_ | refine awp_skip ?_ | refine likeK_i ?_ | refine otWR_i ?_ | refine rD (id := 3) ?_ | refine rD (id := 4) ?_ | refine rD (id := 7) ?_ | refine rD (id := 9) ?_); simp only [go_sem]) | (with_reducible refine awp_ret ?_; simp only [retF, retM, retL, resV, resW, retO, resAV, AV.bor, D.bor, D.bor1, D.bor0, AV.flatOwn, D.flatOwn, D.flat, AV.tagged, D.tagged, AObj.plain, go_sem]) | ((with_reducible refine awp_cond' ?_ ?_ (fun hb => ?_) (fun hb => ?_)); (simp only [go_sem]); (simp only [go_sem]); all_goals (simp only [go_sem] at hb; try simp only [bls] at hb)) | ((iterate 6 try ((fail_if_success with_reducible refine hK _ ?_ ?_ ?_); clear hK K)); with_reducible refine hK _ ?_ ?_ ?_; rotate_left; (focus (simp only [go_sem]; exact rfl)); clear hK K) | ((first | (with_reducible first | refine cA (hp _ _) ?_ | refine cD (hp _ _) ?_ | refine cO (hp _ _) ?_ | refine cR (hp _ _) ?_ | refine cG (fun hg => (hp _ _)) ?_ | refine cH (fun hg => (hp _ _)) ?_ | refine cM (fun hg => (hp _ _)) ?_) | (guard_target = CallAt _ _ _ _ _ _ _ _ _ _; refine cA (hp _ _) ?_) | (guard_target = DCallAt _ _ _ _ _ _ _ _; refine cD (hp _ _) ?_) | (guard_target = GCallAt _ _ _ _ _ _ _ _ _ _ _; refine cG (fun hg => (hp _ _)) ?_)); simp only [go_sem]) | (with_reducible refine gsplit_i (fun hg0 => ?_) (fun hg0 => ?_) <;> first | (with_reducible first | exact absurd hg0 Bool.false_ne_true | exact absurd hg0.symm Bool.false_ne_true) | (simp only [hg0, go_sem])) | (with_reducible refine nilK_i ?_; intro bnil hnil; try simp only []) | (omega; done) | (intro hv; (try simp only [bls] at hv); (try simp only [bls]); omega) | (intro hg; (simp only [hg, Bool.true_and, true_and, implies_true]; try (intro hg2; simp only [hg2, Bool.not_false, Bool.not_true])); done)))
  ·rename_i h0 hA hB
   have hA' : iA u v = true := by unfold iA; simp only [bls]; omega
   have hB' : iB u v = true := by unfold iB; simp only [bls]; omega
   have hs := merge_step keep u v (by omega)
   change keep (iA u v) (iB u v) = true at hb
   rw [hb, hA', hB'] at hs
   rw [hs] at hres
   simp only [ints_one, ints_append]
   exact hL _ (u.drop 1, v.drop 1, out ++ [v.getD 0 0]) ⟨by rw [hres]; simp, by simp only [List.length_append, List.length_singleton, List.length_drop]; omega⟩ (by (simp only [SubF, go_sem]; (try simp only [go_sem]); repeat' (first | exact True.intro | with_reducible refine And.intro ?_ ?_ | rfl | omega))) (by simp only [List.length_drop]; omega)
  ·rename_i h0 hA hB
   have hA' : iA u v = true := by unfold iA; simp only [bls]; omega
   have hB' : iB u v = true := by unfold iB; simp only [bls]; omega
   have hs := merge_step keep u v (by omega)
   change keep (iA u v) (iB u v) = false at hb
   rw [hb, hA', hB'] at hs
   rw [hs] at hres
   exact hL _ (u.drop 1, v.drop 1, out) ⟨by rw [hres]; simp, by simp only [List.length_append, List.length_singleton, List.length_drop]; omega⟩ (by (simp only [SubF, go_sem]; (try simp only [go_sem]); repeat' (first | exact True.intro | with_reducible refine And.intro ?_ ?_ | rfl | omega))) (by simp only [List.length_drop]; omega)
  ·rename_i h0 hA hB
   have hA' : iA u v = true := by unfold iA; simp only [bls]; omega
   have hB' : iB u v = false := by unfold iB; simp only [bls]; omega
   have hs := merge_step keep u v (by omega)
   change keep (iA u v) (iB u v) = true at hb
   rw [hb, hA', hB'] at hs
   rw [hs] at hres
   simp only [ints_one, ints_append]
   exact hL _ (u.drop 1, v, out ++ [u.getD 0 0]) ⟨by rw [hres]; simp, by simp only [List.length_append, List.length_singleton, List.length_drop]; omega⟩ (by (simp only [SubF, go_sem]; (try simp only [go_sem]); repeat' (first | exact True.intro | with_reducible refine And.intro ?_ ?_ | rfl | omega))) (by simp only [List.length_drop]; omega)
  ·rename_i h0 hA hB
   have hA' : iA u v = true := by unfold iA; simp only [bls]; omega
   have hB' : iB u v = false := by unfold iB; simp only [bls]; omega
   have hs := merge_step keep u v (by omega)
   change keep (iA u v) (iB u v) = false at hb
   rw [hb, hA', hB'] at hs
   rw [hs] at hres
   exact hL _ (u.drop 1, v, out) ⟨by rw [hres]; simp, by simp only [List.length_append, List.length_singleton, List.length_drop]; omega⟩ (by (simp only [SubF, go_sem]; (try simp only [go_sem]); repeat' (first | exact True.intro | with_reducible refine And.intro ?_ ?_ | rfl | omega))) (by simp only [List.length_drop]; omega)
  ·rename_i h0 hA hB
   have hA' : iA u v = false := by unfold iA; simp only [bls]; omega
   have hB' : iB u v = true := by unfold iB; simp only [bls]; omega
   have hs := merge_step keep u v (by omega)
   change keep (iA u v) (iB u v) = true at hb
   rw [hb, hA', hB'] at hs
   rw [hs] at hres
   simp only [ints_one, ints_append]
   exact hL _ (u, v.drop 1, out ++ [v.getD 0 0]) ⟨by rw [hres]; simp, by simp only [List.length_append, List.length_singleton, List.length_drop]; omega⟩ (by (simp only [SubF, go_sem]; (try simp only [go_sem]); repeat' (first | exact True.intro | with_reducible refine And.intro ?_ ?_ | rfl | omega))) (by simp only [List.length_drop]; omega)
  ·rename_i h0 hA hB
   have hA' : iA u v = false := by unfold iA; simp only [bls]; omega
   have hB' : iB u v = true := by unfold iB; simp only [bls]; omega
   have hs := merge_step keep u v (by omega)
   change keep (iA u v) (iB u v) = false at hb
   rw [hb, hA', hB'] at hs
   rw [hs] at hres
   exact hL _ (u, v.drop 1, out) ⟨by rw [hres]; simp, by simp only [List.length_append, List.length_singleton, List.length_drop]; omega⟩ (by (simp only [SubF, go_sem]; (try simp only [go_sem]); repeat' (first | exact True.intro | with_reducible refine And.intro ?_ ?_ | rfl | omega))) (by simp only [List.length_drop]; omega)
  ·rw [hres, mergeB_nil keep u v (by omega), List.append_nil]
def interB (a b : List Int) : List Int := mergeB (fun p q => p && q) a b
def minusB (a b : List Int) : List Int := mergeB (fun p q => p && !q) a b
theorem minusB_length (a b : List Int) : (minusB a b).length ≤ a.length + b.length := mergeB_length _ a b
theorem Minus_c (a b : List Int) (hn : a.length + b.length ≤ 1000000) : ACalls Tryd.prog 68 [.one (.list (ints a)), .one (.list (ints b))] (.one (.list (ints (minusB a b)))) [] := by
 unfold minusB
 (refine ACalls.of_body Ty_ok mixed Tryd.func68 rfl (by kernel_rfl) Tryd.ntmps68 (by simp) (congrArg Array.toList Tryd.results68) ?_)
 simp only [slotsOf]
 (repeat' (first | (with_reducible first | exact True.intro | refine And.intro ?_ ?_ | refine awp_block ?_ | ((first | refine awp_seq1 5 [] ?_ | refine awp_seq2 5 [] ?_ | refine awp_seq3 5 [] ?_ | refine awp_seq4 5 [] ?_ | refine awp_seq 5 [] ?_); intro K hK)) | ((with_reducible first | refine awp_reg ?_ | refine awp_exit ?_ | refine awp_skip ?_ | refine likeK_i ?_ | refine otWR_i ?_); simp only [go_sem]) | (with_reducible refine awp_ret ?_; simp only [retF, retM, retL, resV, resW, retO, resAV, AV.bor, D.bor, D.bor1, D.bor0, AV.flatOwn, D.flatOwn, D.flat, AV.tagged, D.tagged, AObj.plain, go_sem]) | ((with_reducible refine awp_cond' ?_ ?_ (fun hb => ?_) (fun hb => ?_)); (simp only [go_sem]); (simp only [go_sem]); all_goals (simp only [go_sem] at hb; try simp only [bls] at hb)) | ((iterate 6 try ((fail_if_success with_reducible refine hK _ ?_ ?_ ?_); clear hK K)); with_reducible refine hK _ ?_ ?_ ?_; rotate_left; (focus (simp only [go_sem]; exact rfl)); clear hK K) | ((first | (with_reducible first | refine cA (merge_c a b 86 _ hn Min1_c) ?_ | refine cD (merge_c a b 86 _ hn Min1_c) ?_ | refine cO (merge_c a b 86 _ hn Min1_c) ?_ | refine cR (merge_c a b 86 _ hn Min1_c) ?_ | refine cG (fun hg => (merge_c a b 86 _ hn Min1_c)) ?_ | refine cH (fun hg => (merge_c a b 86 _ hn Min1_c)) ?_ | refine cM (fun hg => (merge_c a b 86 _ hn Min1_c)) ?_) | (guard_target = CallAt _ _ _ _ _ _ _ _ _ _; refine cA (merge_c a b 86 _ hn Min1_c) ?_) | (guard_target = DCallAt _ _ _ _ _ _ _ _; refine cD (merge_c a b 86 _ hn Min1_c) ?_) | (guard_target = GCallAt _ _ _ _ _ _ _ _ _ _ _; refine cG (fun hg => (merge_c a b 86 _ hn Min1_c)) ?_)); simp only [go_sem]) | (with_reducible refine gsplit_i (fun hg0 => ?_) (fun hg0 => ?_) <;> first | (with_reducible first | exact absurd hg0 Bool.false_ne_true | exact absurd hg0.symm Bool.false_ne_true) | (simp only [hg0, go_sem])) | (with_reducible refine nilK_i ?_; intro bnil hnil; try simp only []) | (omega; done) | (intro hv; (try simp only [bls] at hv); (try simp only [bls]); omega) | (intro hg; (simp only [hg, Bool.true_and, true_and, implies_true]; try (intro hg2; simp only [hg2, Bool.not_false, Bool.not_true])); done)))
theorem Intersect_c (a b : List Int) (hn : a.length + b.length ≤ 1000000) : ACalls Tryd.prog 80 [.one (.list (ints a)), .one (.list (ints b))] (.one (.list (ints (interB a b)))) [] := by
 unfold interB
 (refine ACalls.of_body Ty_ok mixed Tryd.func80 rfl (by kernel_rfl) Tryd.ntmps80 (by simp) (congrArg Array.toList Tryd.results80) ?_)
 simp only [slotsOf]
 (repeat' (first | (with_reducible first | exact True.intro | refine And.intro ?_ ?_ | refine awp_block ?_ | ((first | refine awp_seq1 5 [] ?_ | refine awp_seq2 5 [] ?_ | refine awp_seq3 5 [] ?_ | refine awp_seq4 5 [] ?_ | refine awp_seq 5 [] ?_); intro K hK)) | ((with_reducible first | refine awp_reg ?_ | refine awp_exit ?_ | refine awp_skip ?_ | refine likeK_i ?_ | refine otWR_i ?_); simp only [go_sem]) | (with_reducible refine awp_ret ?_; simp only [retF, retM, retL, resV, resW, retO, resAV, AV.bor, D.bor, D.bor1, D.bor0, AV.flatOwn, D.flatOwn, D.flat, AV.tagged, D.tagged, AObj.plain, go_sem]) | ((with_reducible refine awp_cond' ?_ ?_ (fun hb => ?_) (fun hb => ?_)); (simp only [go_sem]); (simp only [go_sem]); all_goals (simp only [go_sem] at hb; try simp only [bls] at hb)) | ((iterate 6 try ((fail_if_success with_reducible refine hK _ ?_ ?_ ?_); clear hK K)); with_reducible refine hK _ ?_ ?_ ?_; rotate_left; (focus (simp only [go_sem]; exact rfl)); clear hK K) | ((first | (with_reducible first | refine cA (merge_c a b 94 _ hn Int1_c) ?_ | refine cD (merge_c a b 94 _ hn Int1_c) ?_ | refine cO (merge_c a b 94 _ hn Int1_c) ?_ | refine cR (merge_c a b 94 _ hn Int1_c) ?_ | refine cG (fun hg => (merge_c a b 94 _ hn Int1_c)) ?_ | refine cH (fun hg => (merge_c a b 94 _ hn Int1_c)) ?_ | refine cM (fun hg => (merge_c a b 94 _ hn Int1_c)) ?_) | (guard_target = CallAt _ _ _ _ _ _ _ _ _ _; refine cA (merge_c a b 94 _ hn Int1_c) ?_) | (guard_target = DCallAt _ _ _ _ _ _ _ _; refine cD (merge_c a b 94 _ hn Int1_c) ?_) | (guard_target = GCallAt _ _ _ _ _ _ _ _ _ _ _; refine cG (fun hg => (merge_c a b 94 _ hn Int1_c)) ?_)); simp only [go_sem]) | (with_reducible refine gsplit_i (fun hg0 => ?_) (fun hg0 => ?_) <;> first | (with_reducible first | exact absurd hg0 Bool.false_ne_true | exact absurd hg0.symm Bool.false_ne_true) | (simp only [hg0, go_sem])) | (with_reducible refine nilK_i ?_; intro bnil hnil; try simp only []) | (omega; done) | (intro hv; (try simp only [bls] at hv); (try simp only [bls]); omega) | (intro hg; (simp only [hg, Bool.true_and, true_and, implies_true]; try (intro hg2; simp only [hg2, Bool.not_false, Bool.not_true])); done)))
theorem cont_step {xs : List Int} {x : Int} {b : Bool} {k : Nat} (hk : k < xs.length) (h : b = decide (x ∈ xs.drop k)) : b = (decide (xs.getD k 0 = x) || decide (x ∈ xs.drop (k + 1))) := by
 rw [drop_getD xs k 0 hk] at h
 rw [h, Bool.eq_iff_iff]
 simp only [decide_eq_true_eq, List.mem_cons, Bool.or_eq_true]
 rw [eq_comm (a := x)]
set_option maxHeartbeats 4000000 in
theorem refContains_c (xs : List Int) (x : Int) (hn : xs.length ≤ 9223372036854775807) : ACalls Tryd.prog 23 [.one (.list (ints xs)), .one (.int .i64 x)] (.one (.bool (decide (x ∈ xs)))) [] := by
 (refine ACalls.of_body Ty_ok mixed Tryd.func23 rfl (by kernel_rfl) Tryd.ntmps23 (by simp) (congrArg Array.toList Tryd.results23) ?_)
 simp only [slotsOf]
 (repeat' (first | (with_reducible first | exact True.intro | refine And.intro ?_ ?_ | refine awp_block ?_ | ((first | refine awp_seq1 6 [] ?_ | refine awp_seq2 6 [] ?_ | refine awp_seq3 6 [] ?_ | refine awp_seq4 6 [] ?_ | refine awp_seq 6 [] ?_); intro K hK)) | ((with_reducible first | refine awp_reg ?_ | refine awp_exit ?_ | refine awp_skip ?_ | refine likeK_i ?_ | refine otWR_i ?_); simp only [go_sem]) | (with_reducible refine awp_ret ?_; simp only [retF, retM, retL, resV, resW, retO, resAV, AV.bor, D.bor, D.bor1, D.bor0, AV.flatOwn, D.flatOwn, D.flat, AV.tagged, D.tagged, AObj.plain, go_sem]) | ((with_reducible refine awp_cond' ?_ ?_ (fun hb => ?_) (fun hb => ?_)); (simp only [go_sem]); (simp only [go_sem]); all_goals (simp only [go_sem] at hb; try simp only [bls] at hb)) | ((iterate 6 try ((fail_if_success with_reducible refine hK _ ?_ ?_ ?_); clear hK K)); with_reducible refine hK _ ?_ ?_ ?_; rotate_left; (focus (simp only [go_sem]; exact rfl)); clear hK K) | (with_reducible refine gsplit_i (fun hg0 => ?_) (fun hg0 => ?_) <;> first | (with_reducible first | exact absurd hg0 Bool.false_ne_true | exact absurd hg0.symm Bool.false_ne_true) | (simp only [hg0, go_sem])) | (with_reducible refine nilK_i ?_; intro bnil hnil; try simp only []) | (omega; done) | (intro hv; (try simp only [bls] at hv); (try simp only [bls]); omega) | (intro hg; (simp only [hg, Bool.true_and, true_and, implies_true]; try (intro hg2; simp only [hg2, Bool.not_false, Bool.not_true])); done)))
 refine awp_loop _ (by simp only [go_sem]; rfl) Nat (fun k => k ≤ xs.length ∧ decide (x ∈ xs) = decide (x ∈ xs.drop k)) (fun k => [(5, .one (.int .i64 k))]) (fun _ H => H) (fun k => xs.length - k) 0 ⟨by omega, by simp⟩ ?_ ?_
 ·(simp only [SubF, go_sem]; (try simp only [go_sem]); repeat' (first | exact True.intro | with_reducible refine And.intro ?_ ?_ | rfl | omega))
 ·rintro k ⟨hk, hres⟩ L hL
  (simp only [go_sem] at hL ⊢)
  (repeat' (first | (with_reducible first | exact True.intro | refine And.intro ?_ ?_ | refine awp_block ?_ | ((first | refine awp_seq1 6 [] ?_ | refine awp_seq2 6 [] ?_ | refine awp_seq3 6 [] ?_ | refine awp_seq4 6 [] ?_ | refine awp_seq 6 [] ?_); intro K hK)) | ((with_reducible first | refine awp_reg ?_ | refine awp_exit ?_ | refine awp_skip ?_ | refine likeK_i ?_ | refine otWR_i ?_); simp only [go_sem]) | (with_reducible refine awp_ret ?_; simp only [retF, retM, retL, resV, resW, retO, resAV, AV.bor, D.bor, D.bor1, D.bor0, AV.flatOwn, D.flatOwn, D.flat, AV.tagged, D.tagged, AObj.plain, go_sem]) | ((with_reducible refine awp_cond' ?_ ?_ (fun hb => ?_) (fun hb => ?_)); (simp only [go_sem]); (simp only [go_sem]); all_goals (simp only [go_sem] at hb; try simp only [bls] at hb)) | ((iterate 6 try ((fail_if_success with_reducible refine hK _ ?_ ?_ ?_); clear hK K)); with_reducible refine hK _ ?_ ?_ ?_; rotate_left; (focus (simp only [go_sem]; exact rfl)); clear hK K) | (with_reducible refine gsplit_i (fun hg0 => ?_) (fun hg0 => ?_) <;> first | (with_reducible first | exact absurd hg0 Bool.false_ne_true | exact absurd hg0.symm Bool.false_ne_true) | (simp only [hg0, go_sem])) | (with_reducible refine nilK_i ?_; intro bnil hnil; try simp only []) | (omega; done) | (intro hv; (try simp only [bls] at hv); (try simp only [bls]); omega) | (intro hg; (simp only [hg, Bool.true_and, true_and, implies_true]; try (intro hg2; simp only [hg2, Bool.not_false, Bool.not_true])); done)))
  ·rw [cont_step (by omega) hres, decide_eq_true hb]; rfl
  ·have h1 := cont_step (by omega) hres
   rw [decide_eq_false hb, Bool.false_or] at h1
   exact hL _ (k + 1) ⟨by omega, h1⟩ (by (simp only [SubF, go_sem]; (try simp only [go_sem]); repeat' (first | exact True.intro | with_reducible refine And.intro ?_ ?_ | rfl | omega))) (by omega)
  ·rw [hres, drop_end xs k (by omega)]; rfl
theorem filter_take_succ (q : Int → Bool) (xs : List Int) (k : Nat) (hk : k < xs.length) : (xs.take (k + 1)).filter q = (xs.take k).filter q ++ if q (xs.getD k 0) = true then [xs.getD k 0] else [] := by
 rw [take_succ_getD xs k 0 hk, List.filter_append]
 congr 1
 by_cases h : q (xs.getD k 0) = true <;> simp only [List.filter_cons, h, if_true, List.filter_nil] <;> simp
theorem filter_take_length (q : Int → Bool) (xs : List Int) (k : Nat) : ((xs.take k).filter q).length ≤ k := Nat.le_trans (List.length_filter_le _ _) (by simp; omega)
set_option maxHeartbeats 4000000 in
theorem refMinus_c (xs ys : List Int) (hn : xs.length ≤ 1000000) (hm : ys.length ≤ 9223372036854775807) : ACalls Tryd.prog 71 [.one (.list (ints xs)), .one (.list (ints ys))] (.one (.list (ints (xs.filter fun x => !decide (x ∈ ys))))) [] := by
 (refine ACalls.of_body Ty_ok mixed Tryd.func71 rfl (by kernel_rfl) Tryd.ntmps71 (by simp) (congrArg Array.toList Tryd.results71) ?_)
 simp only [slotsOf]
 (repeat' (first | (with_reducible first | exact True.intro | refine And.intro ?_ ?_ | refine awp_block ?_ | ((first | refine awp_seq1 7 [] ?_ | refine awp_seq2 7 [] ?_ | refine awp_seq3 7 [] ?_ | refine awp_seq4 7 [] ?_ | refine awp_seq 7 [] ?_); intro K hK)) | ((with_reducible first | refine awp_reg ?_ | refine awp_exit ?_ | refine awp_skip ?_ | refine likeK_i ?_ | refine otWR_i ?_); simp only [go_sem]) | (with_reducible refine awp_ret ?_; simp only [retF, retM, retL, resV, resW, retO, resAV, AV.bor, D.bor, D.bor1, D.bor0, AV.flatOwn, D.flatOwn, D.flat, AV.tagged, D.tagged, AObj.plain, go_sem]) | ((with_reducible refine awp_cond' ?_ ?_ (fun hb => ?_) (fun hb => ?_)); (simp only [go_sem]); (simp only [go_sem]); all_goals (simp only [go_sem] at hb; try simp only [bls] at hb)) | ((iterate 6 try ((fail_if_success with_reducible refine hK _ ?_ ?_ ?_); clear hK K)); with_reducible refine hK _ ?_ ?_ ?_; rotate_left; (focus (simp only [go_sem]; exact rfl)); clear hK K) | (with_reducible refine gsplit_i (fun hg0 => ?_) (fun hg0 => ?_) <;> first | (with_reducible first | exact absurd hg0 Bool.false_ne_true | exact absurd hg0.symm Bool.false_ne_true) | (simp only [hg0, go_sem])) | (with_reducible refine nilK_i ?_; intro bnil hnil; try simp only []) | (omega; done) | (intro hv; (try simp only [bls] at hv); (try simp only [bls]); omega) | (intro hg; (simp only [hg, Bool.true_and, true_and, implies_true]; try (intro hg2; simp only [hg2, Bool.not_false, Bool.not_true])); done)))
 refine awp_loop _ (by simp only [go_sem]; rfl) Nat (fun k => k ≤ xs.length) (fun k => [(5, .one (.own 1)), (6, .one (.int .i64 k))]) (fun k H => [.row 3 1 [], .row 3 1 (ints ((xs.take k).filter fun x => !decide (x ∈ ys)))]) (fun k => xs.length - k) 0 (by omega) ?_ ?_
 ·(simp only [SubF, go_sem]; (try simp only [go_sem]); repeat' (first | exact True.intro | with_reducible refine And.intro ?_ ?_ | rfl | omega))
 ·rintro k hk L hL
  have hlen := filter_take_length (fun x => !decide (x ∈ ys)) xs k
  (simp only [go_sem] at hL ⊢)
  (repeat' (first | (with_reducible first | exact True.intro | refine And.intro ?_ ?_ | refine awp_block ?_ | ((first | refine awp_seq1 7 [] ?_ | refine awp_seq2 7 [] ?_ | refine awp_seq3 7 [] ?_ | refine awp_seq4 7 [] ?_ | refine awp_seq 7 [] ?_); intro K hK)) | ((with_reducible first | refine awp_reg ?_ | refine awp_exit ?_ | refine awp_skip ?_ | refine likeK_i ?_ | refine otWR_i ?_); simp only [go_sem]) | (with_reducible refine awp_ret ?_; simp only [retF, retM, retL, resV, resW, retO, resAV, AV.bor, D.bor, D.bor1, D.bor0, AV.flatOwn, D.flatOwn, D.flat, AV.tagged, D.tagged, AObj.plain, go_sem]) | ((with_reducible refine awp_cond' ?_ ?_ (fun hb => ?_) (fun hb => ?_)); (simp only [go_sem]); (simp only [go_sem]); all_goals (simp only [go_sem] at hb; try simp only [bls] at hb)) | ((iterate 6 try ((fail_if_success with_reducible refine hK _ ?_ ?_ ?_); clear hK K)); with_reducible refine hK _ ?_ ?_ ?_; rotate_left; (focus (simp only [go_sem]; exact rfl)); clear hK K) | ((first | (with_reducible first | refine cA (refContains_c ys (xs.getD k 0) hm) ?_ | refine cD (refContains_c ys (xs.getD k 0) hm) ?_ | refine cO (refContains_c ys (xs.getD k 0) hm) ?_ | refine cR (refContains_c ys (xs.getD k 0) hm) ?_ | refine cG (fun hg => (refContains_c ys (xs.getD k 0) hm)) ?_ | refine cH (fun hg => (refContains_c ys (xs.getD k 0) hm)) ?_ | refine cM (fun hg => (refContains_c ys (xs.getD k 0) hm)) ?_) | (guard_target = CallAt _ _ _ _ _ _ _ _ _ _; refine cA (refContains_c ys (xs.getD k 0) hm) ?_) | (guard_target = DCallAt _ _ _ _ _ _ _ _; refine cD (refContains_c ys (xs.getD k 0) hm) ?_) | (guard_target = GCallAt _ _ _ _ _ _ _ _ _ _ _; refine cG (fun hg => (refContains_c ys (xs.getD k 0) hm)) ?_)); simp only [go_sem]) | (with_reducible refine gsplit_i (fun hg0 => ?_) (fun hg0 => ?_) <;> first | (with_reducible first | exact absurd hg0 Bool.false_ne_true | exact absurd hg0.symm Bool.false_ne_true) | (simp only [hg0, go_sem])) | (with_reducible refine nilK_i ?_; intro bnil hnil; try simp only []) | (omega; done) | (intro hv; (try simp only [bls] at hv); (try simp only [bls]); omega) | (intro hg; (simp only [hg, Bool.true_and, true_and, implies_true]; try (intro hg2; simp only [hg2, Bool.not_false, Bool.not_true])); done)))
  ·have e := filter_take_succ (fun x => !decide (x ∈ ys)) xs k (by omega)
   rw [if_pos (by simpa using hb)] at e
   simp only [ints_one, ints_append, ← e]
   exact hL _ (k + 1) (by omega) (by (simp only [SubF, go_sem]; (try simp only [go_sem]); repeat' (first | exact True.intro | with_reducible refine And.intro ?_ ?_ | rfl | omega))) (by omega)
  ·have e := filter_take_succ (fun x => !decide (x ∈ ys)) xs k (by omega)
   rw [if_neg (by simpa using hb), List.append_nil] at e
   simp only [← e]
   exact hL _ (k + 1) (by omega) (by (simp only [SubF, go_sem]; (try simp only [go_sem]); repeat' (first | exact True.intro | with_reducible refine And.intro ?_ ?_ | rfl | omega))) (by omega)
  ·rw [List.take_of_length_le (by omega)]
theorem slNaN_c (x : Int) : ACalls Tryd.prog 96 [.one (.int .i64 x)] (.one (.bool false)) [] := by
 (refine ACalls.of_body Ty_ok mixed Tryd.func96 rfl (by kernel_rfl) Tryd.ntmps96 (by simp) (congrArg Array.toList Tryd.results96) ?_)
 simp only [slotsOf]
 (repeat' (first | (with_reducible first | exact True.intro | refine And.intro ?_ ?_ | refine awp_block ?_ | ((first | refine awp_seq1 3 [] ?_ | refine awp_seq2 3 [] ?_ | refine awp_seq3 3 [] ?_ | refine awp_seq4 3 [] ?_ | refine awp_seq 3 [] ?_); intro K hK)) | ((with_reducible first | refine awp_reg ?_ | refine awp_exit ?_ | refine awp_skip ?_ | refine likeK_i ?_ | refine otWR_i ?_); simp only [go_sem]) | (with_reducible refine awp_ret ?_; simp only [retF, retM, retL, resV, resW, retO, resAV, AV.bor, D.bor, D.bor1, D.bor0, AV.flatOwn, D.flatOwn, D.flat, AV.tagged, D.tagged, AObj.plain, go_sem]) | ((with_reducible refine awp_cond' ?_ ?_ (fun hb => ?_) (fun hb => ?_)); (simp only [go_sem]); (simp only [go_sem]); all_goals (simp only [go_sem] at hb; try simp only [bls] at hb)) | ((iterate 6 try ((fail_if_success with_reducible refine hK _ ?_ ?_ ?_); clear hK K)); with_reducible refine hK _ ?_ ?_ ?_; rotate_left; (focus (simp only [go_sem]; exact rfl)); clear hK K) | (with_reducible refine gsplit_i (fun hg0 => ?_) (fun hg0 => ?_) <;> first | (with_reducible first | exact absurd hg0 Bool.false_ne_true | exact absurd hg0.symm Bool.false_ne_true) | (simp only [hg0, go_sem])) | (with_reducible refine nilK_i ?_; intro bnil hnil; try simp only []) | (omega; done) | (intro hv; (try simp only [bls] at hv); (try simp only [bls]); omega) | (intro hg; (simp only [hg, Bool.true_and, true_and, implies_true]; try (intro hg2; simp only [hg2, Bool.not_false, Bool.not_true])); done)))
 simp
theorem cmpNaN_c (x : Int) : ACalls Tryd.prog 100 [.one (.int .i64 x)] (.one (.bool false)) [] := by
 (refine ACalls.of_body Ty_ok mixed Tryd.func100 rfl (by kernel_rfl) Tryd.ntmps100 (by simp) (congrArg Array.toList Tryd.results100) ?_)
 simp only [slotsOf]
 (repeat' (first | (with_reducible first | exact True.intro | refine And.intro ?_ ?_ | refine awp_block ?_ | ((first | refine awp_seq1 3 [] ?_ | refine awp_seq2 3 [] ?_ | refine awp_seq3 3 [] ?_ | refine awp_seq4 3 [] ?_ | refine awp_seq 3 [] ?_); intro K hK)) | ((with_reducible first | refine awp_reg ?_ | refine awp_exit ?_ | refine awp_skip ?_ | refine likeK_i ?_ | refine otWR_i ?_); simp only [go_sem]) | (with_reducible refine awp_ret ?_; simp only [retF, retM, retL, resV, resW, retO, resAV, AV.bor, D.bor, D.bor1, D.bor0, AV.flatOwn, D.flatOwn, D.flat, AV.tagged, D.tagged, AObj.plain, go_sem]) | ((with_reducible refine awp_cond' ?_ ?_ (fun hb => ?_) (fun hb => ?_)); (simp only [go_sem]); (simp only [go_sem]); all_goals (simp only [go_sem] at hb; try simp only [bls] at hb)) | ((iterate 6 try ((fail_if_success with_reducible refine hK _ ?_ ?_ ?_); clear hK K)); with_reducible refine hK _ ?_ ?_ ?_; rotate_left; (focus (simp only [go_sem]; exact rfl)); clear hK K) | (with_reducible refine gsplit_i (fun hg0 => ?_) (fun hg0 => ?_) <;> first | (with_reducible first | exact absurd hg0 Bool.false_ne_true | exact absurd hg0.symm Bool.false_ne_true) | (simp only [hg0, go_sem])) | (with_reducible refine nilK_i ?_; intro bnil hnil; try simp only []) | (omega; done) | (intro hv; (try simp only [bls] at hv); (try simp only [bls]); omega) | (intro hg; (simp only [hg, Bool.true_and, true_and, implies_true]; try (intro hg2; simp only [hg2, Bool.not_false, Bool.not_true])); done)))
 simp
theorem Less_c (x y : Int) : ACalls Tryd.prog 95 [.one (.int .i64 x), .one (.int .i64 y)] (.one (.bool (decide (x < y)))) [] := by
 (refine ACalls.of_body Ty_ok mixed Tryd.func95 rfl (by kernel_rfl) Tryd.ntmps95 (by simp) (congrArg Array.toList Tryd.results95) ?_)
 simp only [slotsOf]
 (repeat' (first | (with_reducible first | exact True.intro | refine And.intro ?_ ?_ | refine awp_block ?_ | ((first | refine awp_seq1 5 [] ?_ | refine awp_seq2 5 [] ?_ | refine awp_seq3 5 [] ?_ | refine awp_seq4 5 [] ?_ | refine awp_seq 5 [] ?_); intro K hK)) | ((with_reducible first | refine awp_reg ?_ | refine awp_exit ?_ | refine awp_skip ?_ | refine likeK_i ?_ | refine otWR_i ?_); simp only [go_sem]) | (with_reducible refine awp_ret ?_; simp only [retF, retM, retL, resV, resW, retO, resAV, AV.bor, D.bor, D.bor1, D.bor0, AV.flatOwn, D.flatOwn, D.flat, AV.tagged, D.tagged, AObj.plain, go_sem]) | ((with_reducible refine awp_cond' ?_ ?_ (fun hb => ?_) (fun hb => ?_)); (simp only [go_sem]); (simp only [go_sem]); all_goals (simp only [go_sem] at hb; try simp only [bls] at hb)) | ((iterate 6 try ((fail_if_success with_reducible refine hK _ ?_ ?_ ?_); clear hK K)); with_reducible refine hK _ ?_ ?_ ?_; rotate_left; (focus (simp only [go_sem]; exact rfl)); clear hK K) | ((first | (with_reducible first | refine cA (cmpNaN_c x) ?_ | refine cA (cmpNaN_c y) ?_ | refine cD (cmpNaN_c x) ?_ | refine cD (cmpNaN_c y) ?_ | refine cO (cmpNaN_c x) ?_ | refine cO (cmpNaN_c y) ?_ | refine cR (cmpNaN_c x) ?_ | refine cR (cmpNaN_c y) ?_ | refine cG (fun hg => (cmpNaN_c x)) ?_ | refine cG (fun hg => (cmpNaN_c y)) ?_ | refine cH (fun hg => (cmpNaN_c x)) ?_ | refine cH (fun hg => (cmpNaN_c y)) ?_ | refine cM (fun hg => (cmpNaN_c x)) ?_ | refine cM (fun hg => (cmpNaN_c y)) ?_) | (guard_target = CallAt _ _ _ _ _ _ _ _ _ _; first | refine cA (cmpNaN_c x) ?_ | refine cA (cmpNaN_c y) ?_) | (guard_target = DCallAt _ _ _ _ _ _ _ _; first | refine cD (cmpNaN_c x) ?_ | refine cD (cmpNaN_c y) ?_) | (guard_target = GCallAt _ _ _ _ _ _ _ _ _ _ _; first | refine cG (fun hg => (cmpNaN_c x)) ?_ | refine cG (fun hg => (cmpNaN_c y)) ?_)); simp only [go_sem]) | (with_reducible refine gsplit_i (fun hg0 => ?_) (fun hg0 => ?_) <;> first | (with_reducible first | exact absurd hg0 Bool.false_ne_true | exact absurd hg0.symm Bool.false_ne_true) | (simp only [hg0, go_sem])) | (with_reducible refine nilK_i ?_; intro bnil hnil; try simp only []) | (omega; done) | (intro hv; (try simp only [bls] at hv); (try simp only [bls]); omega) | (intro hg; (simp only [hg, Bool.true_and, true_and, implies_true]; try (intro hg2; simp only [hg2, Bool.not_false, Bool.not_true])); done)))
def below (xs : List Int) (x : Int) : Nat := (xs.filter fun z => decide (z < x)).length
theorem mid_eq (i j : Nat) (hj : i + j ≤ 4611686018427387904) : IntKind.i64.wrap ((IntKind.u64.wrap ((i : Int) + (j : Int))).fdiv (2 ^ min 1 64)) = (((i + j) / 2 : Nat) : Int) := by
 rw [wrap_u64 _ (by omega) (by omega), show min 1 64 = 1 from rfl, show ((i : Int) + (j : Int)) = ((i + j : Nat) : Int) by omega, fdiv_nat]
 exact wrap_fits ((fits_i64 _).2 ⟨by omega, by omega⟩)
theorem below_at (xs : List Int) (x : Int) (k : Nat) (hk : k ≤ xs.length) (h1 : ∀ t, t < k → xs.getD t 0 < x) (h2 : ∀ t, k ≤ t → t < xs.length → x ≤ xs.getD t 0) : below xs x = k := by
 have e : xs = xs.take k ++ xs.drop k := (List.take_append_drop k xs).symm
 have e1 : (xs.take k).filter (fun z => decide (z < x)) = xs.take k := by
  rw [List.filter_eq_self]
  intro z hz
  obtain ⟨t, ht, rfl⟩ := List.mem_iff_getElem.1 hz
  have htk : t < k := by simp at ht; omega
  have htl : t < xs.length := by simp at ht; omega
  have := h1 t htk
  simpa [List.getD, List.getElem?_eq_getElem htl] using this
 have e2 : (xs.drop k).filter (fun z => decide (z < x)) = [] := by
  rw [List.filter_eq_nil_iff]
  intro z hz
  obtain ⟨t, ht, rfl⟩ := List.mem_iff_getElem.1 hz
  have htl : k + t < xs.length := by simp at ht; omega
  have := h2 (k + t) (by omega) htl
  rw [List.getElem_drop]
  simp [List.getD, List.getElem?_eq_getElem htl] at this ⊢
  omega
 rw [below, e, List.filter_append, e1, e2]
 simp
 omega
theorem found_at (xs : List Int) (x : Int) (k : Nat) (hk : k ≤ xs.length) (h1 : ∀ t, t < k → xs.getD t 0 < x) (h2 : ∀ t, k ≤ t → t < xs.length → x ≤ xs.getD t 0) (hs : ∀ a b, a ≤ b → b < xs.length → xs.getD a 0 ≤ xs.getD b 0) :
  decide (x ∈ xs) = (decide (k < xs.length) && decide (xs.getD k 0 = x)) := by
 rw [Bool.eq_iff_iff]
 simp only [decide_eq_true_eq, Bool.and_eq_true]
 constructor
 ·intro hx
  obtain ⟨t, ht, rfl⟩ := List.mem_iff_getElem.1 hx
  have hg : xs.getD t 0 = xs[t] := by simp [List.getD, List.getElem?_eq_getElem ht]
  have hkt : k ≤ t := Nat.le_of_not_lt fun h => by have := h1 t h; omega
  have := hs k t hkt ht
  have := h2 k (Nat.le_refl _) (by omega)
  exact ⟨by omega, by omega⟩
 ·rintro ⟨hk, rfl⟩
  exact getD_mem xs k 0 hk
theorem sorted_getD {xs : List Int} (h : xs.Pairwise (· ≤ ·)) : ∀ a b, a ≤ b → b < xs.length → xs.getD a 0 ≤ xs.getD b 0 := by
 intro a b hab hb
 by_cases e : a = b
 ·subst e; exact Int.le_refl _
 ·have := (List.pairwise_iff_getElem.1 h) a b (by omega) hb (by omega)
  simpa [List.getD, List.getElem?_eq_getElem hb, List.getElem?_eq_getElem (show a < xs.length by omega)] using this
theorem lt_le {xs : List Int} (h : xs.Pairwise (· < ·)) : xs.Pairwise (· ≤ ·) := h.imp fun h => Int.le_of_lt h
set_option maxHeartbeats 4000000 in
theorem BinarySearch_c (xs : List Int) (x : Int) (hn : xs.length ≤ 1000000) (hs : xs.Pairwise (· ≤ ·)) : ACalls Tryd.prog 81 [.one (.list (ints xs)), .one (.int .i64 x)] (.tup [.one (.int .i64 (below xs x)), .one (.bool (decide (x ∈ xs)))]) [] := by
 have hsort := sorted_getD hs
 (refine ACalls.of_body Ty_ok mixed Tryd.func81 rfl (by kernel_rfl) Tryd.ntmps81 (by simp) (congrArg Array.toList Tryd.results81) ?_)
 simp only [slotsOf]
 (repeat' (first | (with_reducible first | exact True.intro | refine And.intro ?_ ?_ | refine awp_block ?_ | ((first | refine awp_seq1 10 [] ?_ | refine awp_seq2 10 [] ?_ | refine awp_seq3 10 [] ?_ | refine awp_seq4 10 [] ?_ | refine awp_seq 10 [] ?_); intro K hK)) | ((with_reducible first | refine awp_reg ?_ | refine awp_exit ?_ | refine awp_skip ?_ | refine likeK_i ?_ | refine otWR_i ?_); simp only [go_sem]) | (with_reducible refine awp_ret ?_; simp only [retF, retM, retL, resV, resW, retO, resAV, AV.bor, D.bor, D.bor1, D.bor0, AV.flatOwn, D.flatOwn, D.flat, AV.tagged, D.tagged, AObj.plain, go_sem]) | ((with_reducible refine awp_cond' ?_ ?_ (fun hb => ?_) (fun hb => ?_)); (simp only [go_sem]); (simp only [go_sem]); all_goals (simp only [go_sem] at hb; try simp only [bls] at hb)) | ((iterate 6 try ((fail_if_success with_reducible refine hK _ ?_ ?_ ?_); clear hK K)); with_reducible refine hK _ ?_ ?_ ?_; rotate_left; (focus (simp only [go_sem]; exact rfl)); clear hK K) | (with_reducible refine gsplit_i (fun hg0 => ?_) (fun hg0 => ?_) <;> first | (with_reducible first | exact absurd hg0 Bool.false_ne_true | exact absurd hg0.symm Bool.false_ne_true) | (simp only [hg0, go_sem])) | (with_reducible refine nilK_i ?_; intro bnil hnil; try simp only []) | (omega; done) | (intro hv; (try simp only [bls] at hv); (try simp only [bls]); omega) | (intro hg; (simp only [hg, Bool.true_and, true_and, implies_true]; try (intro hg2; simp only [hg2, Bool.not_false, Bool.not_true])); done)))
 refine awp_loop _ (by simp only [go_sem]; rfl) (Nat × Nat) (fun s => s.1 ≤ s.2 ∧ s.2 ≤ xs.length ∧ (∀ t, t < s.1 → xs.getD t 0 < x) ∧ ∀ t, s.2 ≤ t → t < xs.length → x ≤ xs.getD t 0) (fun s => [(7, .one (.int .i64 s.1)), (8, .one (.int .i64 s.2))]) (fun _ H => H) (fun s => s.2 - s.1) (0, xs.length) ⟨Nat.zero_le _, Nat.le_refl _, (fun t h => absurd h (Nat.not_lt_zero t)), (fun t h1 h2 => absurd h2 (Nat.not_lt.2 h1))⟩ ?_ ?_
 ·(simp only [SubF, go_sem]; (try simp only [go_sem]); repeat' (first | exact True.intro | with_reducible refine And.intro ?_ ?_ | rfl | omega))
 ·rintro ⟨i, j⟩ ⟨h1, h2, h3, h4⟩ L hL
  simp only at h1 h2 h3 h4
  have hm := mid_eq i j (by omega)
  (simp only [go_sem] at hL ⊢)
  (repeat' (first | (with_reducible first | exact True.intro | refine And.intro ?_ ?_ | refine awp_block ?_ | ((first | refine awp_seq1 10 [] ?_ | refine awp_seq2 10 [] ?_ | refine awp_seq3 10 [] ?_ | refine awp_seq4 10 [] ?_ | refine awp_seq 10 [] ?_); intro K hK)) | ((with_reducible first | refine awp_reg ?_ | refine awp_exit ?_ | refine awp_skip ?_ | refine likeK_i ?_ | refine otWR_i ?_); simp only [hm, go_sem]) | (with_reducible refine awp_ret ?_; simp only [retF, retM, retL, resV, resW, retO, resAV, AV.bor, D.bor, D.bor1, D.bor0, AV.flatOwn, D.flatOwn, D.flat, AV.tagged, D.tagged, AObj.plain, hm, go_sem]) | ((with_reducible refine awp_cond' ?_ ?_ (fun hb => ?_) (fun hb => ?_)); (simp only [hm, go_sem]); (simp only [hm, go_sem]); all_goals (simp only [hm, go_sem] at hb; try simp only [bls] at hb)) | ((iterate 6 try ((fail_if_success with_reducible refine hK _ ?_ ?_ ?_); clear hK K)); with_reducible refine hK _ ?_ ?_ ?_; rotate_left; (focus (simp only [hm, go_sem]; exact rfl)); clear hK K) | ((first | (with_reducible first | refine cA (Less_c (xs.getD ((i + j) / 2) 0) x) ?_ | refine cA (slNaN_c _) ?_ | refine cD (Less_c (xs.getD ((i + j) / 2) 0) x) ?_ | refine cD (slNaN_c _) ?_ | refine cO (Less_c (xs.getD ((i + j) / 2) 0) x) ?_ | refine cO (slNaN_c _) ?_ | refine cR (Less_c (xs.getD ((i + j) / 2) 0) x) ?_ | refine cR (slNaN_c _) ?_ | refine cG (fun hg => (Less_c (xs.getD ((i + j) / 2) 0) x)) ?_ | refine cG (fun hg => (slNaN_c _)) ?_ | refine cH (fun hg => (Less_c (xs.getD ((i + j) / 2) 0) x)) ?_ | refine cH (fun hg => (slNaN_c _)) ?_ | refine cM (fun hg => (Less_c (xs.getD ((i + j) / 2) 0) x)) ?_ | refine cM (fun hg => (slNaN_c _)) ?_) | (guard_target = CallAt _ _ _ _ _ _ _ _ _ _; first | refine cA (Less_c (xs.getD ((i + j) / 2) 0) x) ?_ | refine cA (slNaN_c _) ?_) | (guard_target = DCallAt _ _ _ _ _ _ _ _; first | refine cD (Less_c (xs.getD ((i + j) / 2) 0) x) ?_ | refine cD (slNaN_c _) ?_) | (guard_target = GCallAt _ _ _ _ _ _ _ _ _ _ _; first | refine cG (fun hg => (Less_c (xs.getD ((i + j) / 2) 0) x)) ?_ | refine cG (fun hg => (slNaN_c _)) ?_)); simp only [hm, go_sem]) | (with_reducible refine gsplit_i (fun hg0 => ?_) (fun hg0 => ?_) <;> first | (with_reducible first | exact absurd hg0 Bool.false_ne_true | exact absurd hg0.symm Bool.false_ne_true) | (simp only [hg0, hm, go_sem])) | (with_reducible refine nilK_i ?_; intro bnil hnil; try simp only []) | (omega; done) | (intro hv; (try simp only [bls] at hv); (try simp only [bls]); omega) | (intro hg; (simp only [hg, Bool.true_and, true_and, implies_true]; try (intro hg2; simp only [hg2, Bool.not_false, Bool.not_true])); done)))
  ·exact hL _ ((i + j) / 2 + 1, j) ⟨by simp only; omega, by simp only; omega, fun t ht => by
    simp only at ht
    have := hsort t ((i + j) / 2) (by omega) (by omega)
    omega, fun t h5 h6 => h4 t h5 h6⟩ (by (simp only [SubF, go_sem]; (try simp only [go_sem]); repeat' (first | exact True.intro | with_reducible refine And.intro ?_ ?_ | rfl | omega))) (by simp only; omega)
  ·exact hL _ (i, (i + j) / 2) ⟨by simp only; omega, by simp only; omega, h3, fun t h5 h6 => by
    simp only at h5
    have := hsort ((i + j) / 2) t h5 h6
    omega⟩ (by (simp only [SubF, go_sem]; (try simp only [go_sem]); repeat' (first | exact True.intro | with_reducible refine And.intro ?_ ?_ | rfl | omega))) (by simp only; omega)
  all_goals
   have hij : i = j := by omega
   subst hij
   have e1 := below_at xs x i h2 h3 h4
   have e2 := found_at xs x i h2 h3 h4 hsort
   first
    | (rw [e1]; done)
    | (rw [e2, Bool.eq_iff_iff]; simp; done)
    | skip
theorem Contains_c (xs : List Int) (x : Int) (hn : xs.length ≤ 1000000) (hs : xs.Pairwise (· ≤ ·)) : ACalls Tryd.prog 57 [.one (.list (ints xs)), .one (.int .i64 x)] (.one (.bool (decide (x ∈ xs)))) [] := by
 (refine ACalls.of_body Ty_ok mixed Tryd.func57 rfl (by kernel_rfl) Tryd.ntmps57 (by simp) (congrArg Array.toList Tryd.results57) ?_)
 simp only [slotsOf]
 (repeat' (first | (with_reducible first | exact True.intro | refine And.intro ?_ ?_ | refine awp_block ?_ | ((first | refine awp_seq1 5 [6] ?_ | refine awp_seq2 5 [6] ?_ | refine awp_seq3 5 [6] ?_ | refine awp_seq4 5 [6] ?_ | refine awp_seq 5 [6] ?_); intro K hK)) | ((with_reducible first | refine awp_reg ?_ | refine awp_exit ?_ | refine awp_skip ?_ | refine likeK_i ?_ | refine otWR_i ?_); simp only [go_sem]) | (with_reducible refine awp_ret ?_; simp only [retF, retM, retL, resV, resW, retO, resAV, AV.bor, D.bor, D.bor1, D.bor0, AV.flatOwn, D.flatOwn, D.flat, AV.tagged, D.tagged, AObj.plain, go_sem]) | ((with_reducible refine awp_cond' ?_ ?_ (fun hb => ?_) (fun hb => ?_)); (simp only [go_sem]); (simp only [go_sem]); all_goals (simp only [go_sem] at hb; try simp only [bls] at hb)) | ((iterate 6 try ((fail_if_success with_reducible refine hK _ ?_ ?_ ?_); clear hK K)); with_reducible refine hK _ ?_ ?_ ?_; rotate_left; (focus (simp only [go_sem]; exact rfl)); clear hK K) | ((first | (with_reducible first | refine cA (BinarySearch_c xs x hn hs) ?_ | refine cD (BinarySearch_c xs x hn hs) ?_ | refine cO (BinarySearch_c xs x hn hs) ?_ | refine cR (BinarySearch_c xs x hn hs) ?_ | refine cG (fun hg => (BinarySearch_c xs x hn hs)) ?_ | refine cH (fun hg => (BinarySearch_c xs x hn hs)) ?_ | refine cM (fun hg => (BinarySearch_c xs x hn hs)) ?_) | (guard_target = CallAt _ _ _ _ _ _ _ _ _ _; refine cA (BinarySearch_c xs x hn hs) ?_) | (guard_target = DCallAt _ _ _ _ _ _ _ _; refine cD (BinarySearch_c xs x hn hs) ?_) | (guard_target = GCallAt _ _ _ _ _ _ _ _ _ _ _; refine cG (fun hg => (BinarySearch_c xs x hn hs)) ?_)); simp only [go_sem]) | (with_reducible refine gsplit_i (fun hg0 => ?_) (fun hg0 => ?_) <;> first | (with_reducible first | exact absurd hg0 Bool.false_ne_true | exact absurd hg0.symm Bool.false_ne_true) | (simp only [hg0, go_sem])) | (with_reducible refine nilK_i ?_; intro bnil hnil; try simp only []) | (omega; done) | (intro hv; (try simp only [bls] at hv); (try simp only [bls]); omega) | (intro hg; (simp only [hg, Bool.true_and, true_and, implies_true]; try (intro hg2; simp only [hg2, Bool.not_false, Bool.not_true])); done)))
theorem sorted_ext : ∀ {xs ys : List Int}, xs.Pairwise (· < ·) → ys.Pairwise (· < ·) → (∀ z, z ∈ xs ↔ z ∈ ys) → xs = ys
 | [], [], _, _, _ => rfl
 | [], y :: ys, _, _, h => by have := (h y).2 (by simp); simp at this
 | x :: xs, [], _, _, h => by have := (h x).1 (by simp); simp at this
 | x :: xs, y :: ys, hx, hy, h => by
  rw [List.pairwise_cons] at hx hy
  have e : x = y := by
   have h1 := (h x).1 (by simp)
   have h2 := (h y).2 (by simp)
   rw [List.mem_cons] at h1 h2
   rcases h1 with h1 | h1
   ·exact h1
   ·rcases h2 with h2 | h2
    ·exact h2.symm
    ·have := hy.1 x h1; have := hx.1 y h2; omega
  subst e
  congr 1
  refine sorted_ext hx.2 hy.2 fun z => ?_
  have hz := h z
  rw [List.mem_cons, List.mem_cons] at hz
  constructor
  ·intro hm
   have := hx.1 z hm
   rcases hz.1 (.inr hm) with h1 | h1
   ·omega
   ·exact h1
  ·intro hm
   have := hy.1 z hm
   rcases hz.2 (.inr hm) with h1 | h1
   ·omega
   ·exact h1
theorem csFrom_zero (m : Int) : ∀ (xs : List Int) (p : Option Int), csFrom m xs p = 0 ↔ (∀ x ∈ xs, 0 ≤ x ∧ x < m ∧ ∀ q ∈ p, q < x) ∧ xs.Pairwise (· < ·)
 | [], p => by simp [csFrom]
 | x :: xs, p => by
  rw [csFrom, List.pairwise_cons]
  by_cases h1 : x < 0 ∨ m ≤ x
  ·rw [if_pos h1]
   constructor
   ·intro h; omega
   ·intro h; have := h.1 x (by simp); omega
  ·rw [if_neg h1]
   by_cases h2 : (p.any fun p => decide (x ≤ p)) = true
   ·rw [if_pos h2]
    constructor
    ·intro h; omega
    ·intro h
     rw [Option.any_eq_true] at h2
     obtain ⟨q, hq, hle⟩ := h2
     have := (h.1 x (by simp)).2.2 q hq
     simp at hle
     omega
   ·rw [if_neg h2, csFrom_zero m xs (some x)]
    have h3 : ∀ q ∈ p, q < x := by
     intro q hq
     rw [Option.any_eq_true] at h2
     exact Int.not_le.1 fun hle => h2 ⟨q, hq, by simpa using hle⟩
    constructor
    ·rintro ⟨ha, hb⟩
     refine ⟨fun y hy => ?_, fun y hy => (ha y hy).2.2 x rfl, hb⟩
     rcases List.mem_cons.1 hy with rfl | hy
     ·exact ⟨by omega, by omega, h3⟩
     ·have := ha y hy
      have h4 := this.2.2 x rfl
      exact ⟨this.1, this.2.1, fun q hq => by have := h3 q hq; omega⟩
    ·rintro ⟨ha, hb, hc⟩
     exact ⟨fun y hy => ⟨(ha y (by simp [hy])).1, (ha y (by simp [hy])).2.1, fun q hq => by cases hq; exact hb y hy⟩, hc⟩
theorem checkSet_zero (xs : List Int) (m : Int) : checkSet xs m = 0 ↔ (∀ x ∈ xs, 0 ≤ x ∧ x < m) ∧ xs.Pairwise (· < ·) := by
 rw [checkSet, csFrom_zero]; simp
theorem bitsL_pairwise (m k : Nat) : (bitsL m k).Pairwise (· < ·) := by
 unfold bitsL
 rw [List.pairwise_map]
 refine List.Pairwise.imp ?_ (List.Pairwise.filter _ List.pairwise_lt_range)
 intro a b h
 exact Int.ofNat_lt.2 h
theorem mem_bitsL (m k : Nat) (x : Int) : x ∈ bitsL m k ↔ 0 ≤ x ∧ x < k ∧ m.testBit x.toNat = true := by
 simp only [bitsL, List.mem_map, List.mem_filter, List.mem_range]
 constructor
 ·rintro ⟨i, ⟨h1, h2⟩, rfl⟩
  exact ⟨Int.natCast_nonneg _, Int.ofNat_lt.2 h1, by simpa using h2⟩
 ·rintro ⟨h1, h2, h3⟩
  exact ⟨x.toNat, ⟨by omega, h3⟩, Int.toNat_of_nonneg h1⟩
theorem merge_spec (keep : Bool → Bool → Bool) (a b : List Int) (ha : a.Pairwise (· < ·)) (hb : b.Pairwise (· < ·)) :
  (mergeB keep a b).Pairwise (· < ·) ∧ ∀ z, z ∈ mergeB keep a b ↔ (z ∈ a ∨ z ∈ b) ∧ keep (decide (z ∈ a)) (decide (z ∈ b)) = true := by
 fun_induction mergeB keep a b with
 | case1 => simp
 | case2 x a ih =>
  rw [List.pairwise_cons] at ha
  obtain ⟨i1, i2⟩ := ih ha.2 hb
  have hna : x ∉ a := fun h => by have := ha.1 x h; omega
  have key : ∀ z, z ∈ a → z ≠ x := fun z hz e => hna (e ▸ hz)
  constructor
  ·split
   ·rw [List.singleton_append, List.pairwise_cons]
    exact ⟨fun z hz => ha.1 z (by have := (i2 z).1 hz; simpa using this.1), i1⟩
   ·simpa using i1
  ·intro z
   rw [List.mem_append, i2 z]
   by_cases hz : z = x
   ·subst hz
    simp [hna]
   ·have : z ∉ (if keep true false = true then [x] else []) := by split <;> simp [hz]
    simp [hz, this]
 | case3 y b ih =>
  rw [List.pairwise_cons] at hb
  obtain ⟨i1, i2⟩ := ih ha hb.2
  have hnb : y ∉ b := fun h => by have := hb.1 y h; omega
  constructor
  ·split
   ·rw [List.singleton_append, List.pairwise_cons]
    exact ⟨fun z hz => hb.1 z (by have := (i2 z).1 hz; simpa using this.1), i1⟩
   ·simpa using i1
  ·intro z
   rw [List.mem_append, i2 z]
   by_cases hz : z = y
   ·subst hz
    simp [hnb]
   ·have : z ∉ (if keep false true = true then [y] else []) := by split <;> simp [hz]
    simp [hz, this]
 | case4 x a y b hlt ih =>
  have hb' := hb
  rw [List.pairwise_cons] at ha hb'
  obtain ⟨i1, i2⟩ := ih ha.2 hb
  have hna : x ∉ a := fun h => by have := ha.1 x h; omega
  have hnb : x ∉ y :: b := fun h => by
   rcases List.mem_cons.1 h with h | h
   ·omega
   ·have := hb'.1 x h; omega
  constructor
  ·split
   ·rw [List.singleton_append, List.pairwise_cons]
    refine ⟨fun z hz => ?_, i1⟩
    rcases ((i2 z).1 hz).1 with h | h
    ·exact ha.1 z h
    ·rcases List.mem_cons.1 h with h | h
     ·omega
     ·have := hb'.1 z h; omega
   ·simpa using i1
  ·intro z
   rw [List.mem_append, i2 z]
   by_cases hz : z = x
   ·subst hz
    simp only [List.mem_cons] at hnb
    simp [hna, hnb]
   ·have : z ∉ (if keep true false = true then [x] else []) := by split <;> simp [hz]
    simp [hz, this]
 | case5 x a y b hlt hgt ih =>
  have ha' := ha
  rw [List.pairwise_cons] at ha' hb
  obtain ⟨i1, i2⟩ := ih ha hb.2
  have hnb : y ∉ b := fun h => by have := hb.1 y h; omega
  have hna : y ∉ x :: a := fun h => by
   rcases List.mem_cons.1 h with h | h
   ·omega
   ·have := ha'.1 y h; omega
  constructor
  ·split
   ·rw [List.singleton_append, List.pairwise_cons]
    refine ⟨fun z hz => ?_, i1⟩
    rcases ((i2 z).1 hz).1 with h | h
    ·rcases List.mem_cons.1 h with h | h
     ·omega
     ·have := ha'.1 z h; omega
    ·exact hb.1 z h
   ·simpa using i1
  ·intro z
   rw [List.mem_append, i2 z]
   by_cases hz : z = y
   ·subst hz
    simp only [List.mem_cons] at hna
    simp [hna, hnb]
   ·have : z ∉ (if keep false true = true then [y] else []) := by split <;> simp [hz]
    simp [hz, this]
 | case6 x a y b hlt hgt ih =>
  have e : x = y := by omega
  subst e
  rw [List.pairwise_cons] at ha hb
  obtain ⟨i1, i2⟩ := ih ha.2 hb.2
  have hna : x ∉ a := fun h => by have := ha.1 x h; omega
  have hnb : x ∉ b := fun h => by have := hb.1 x h; omega
  constructor
  ·split
   ·rw [List.singleton_append, List.pairwise_cons]
    refine ⟨fun z hz => ?_, i1⟩
    rcases ((i2 z).1 hz).1 with h | h
    ·exact ha.1 z h
    ·exact hb.1 z h
   ·simpa using i1
  ·intro z
   rw [List.mem_append, i2 z]
   by_cases hz : z = x
   ·subst hz
    simp [hna, hnb]
   ·have : z ∉ (if keep true true = true then [x] else []) := by split <;> simp [hz]
    simp [hz, this]
abbrev Incr (a : List Int) : Prop := a.Pairwise (· < ·)
theorem mem_inter {a b : List Int} (ha : Incr a) (hb : Incr b) (z : Int) : z ∈ interB a b ↔ z ∈ a ∧ z ∈ b := by
 rw [interB, (merge_spec _ a b ha hb).2 z]; by_cases h1 : z ∈ a <;> by_cases h2 : z ∈ b <;> simp [h1, h2]
theorem mem_minus {a b : List Int} (ha : Incr a) (hb : Incr b) (z : Int) : z ∈ minusB a b ↔ z ∈ a ∧ z ∉ b := by
 rw [minusB, (merge_spec _ a b ha hb).2 z]; by_cases h1 : z ∈ a <;> by_cases h2 : z ∈ b <;> simp [h1, h2]
theorem incr_inter {a b : List Int} (ha : Incr a) (hb : Incr b) : Incr (interB a b) := (merge_spec _ a b ha hb).1
theorem incr_minus {a b : List Int} (ha : Incr a) (hb : Incr b) : Incr (minusB a b) := (merge_spec _ a b ha hb).1
theorem incr_filter {a : List Int} (ha : Incr a) (q : Int → Bool) : Incr (a.filter q) := List.Pairwise.filter _ ha
theorem incr_set (m : Nat) : Incr (setOf m) := bitsL_pairwise m 32
theorem inter_filter {a b : List Int} (ha : Incr a) (hb : Incr b) : interB a b = a.filter fun x => decide (x ∈ b) :=
 sorted_ext (incr_inter ha hb) (incr_filter ha _) fun z => by rw [mem_inter ha hb]; simp
theorem minus_filter {a b : List Int} (ha : Incr a) (hb : Incr b) : minusB a b = a.filter fun x => !decide (x ∈ b) :=
 sorted_ext (incr_minus ha hb) (incr_filter ha _) fun z => by rw [mem_minus ha hb]; simp
end Go.Proofs.YtgagpbbnbonnlaaDoor
