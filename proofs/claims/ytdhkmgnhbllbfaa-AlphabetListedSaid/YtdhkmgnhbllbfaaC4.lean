/-
  Contracts: masks, names.
-/
import Derived.Test.YtdhkmgnhbllbfaaC3
set_option linter.unusedSimpArgs false
set_option linter.unusedVariables false
namespace Go.Proofs.Ytdhkmgnhbllbfaa
open Go.Eng Go.RowKit
def bitsL (m k : Nat) : List Int := ((List.range k).filter fun i => m.testBit i).map Int.ofNat
theorem bitsL_succ (m k : Nat) : bitsL m (k + 1) = bitsL m k ++ if m.testBit k = true then [(k : Int)] else [] := by
  simp only [bitsL, List.range_succ, List.filter_append, List.map_append]
  congr 1
  by_cases h : m.testBit k = true <;> simp [List.filter_cons, h]
theorem bitsL_length (m k : Nat) : (bitsL m k).length ≤ k := by
  simp only [bitsL, List.length_map]
  exact Nat.le_trans (List.length_filter_le _ _) (by simp)
def setOf (m : Nat) : List Int := bitsL m 32
theorem setOf_length (m : Nat) : (setOf m).length ≤ 32 := bitsL_length m 32
theorem testBit_tmod (m k : Nat) : ((((m / 2 ^ k : Nat) : Int).tmod 2) = 1) ↔ m.testBit k = true := by
  rw [Nat.testBit_eq_decide_div_mod_eq, decide_eq_true_iff, Int.tmod_eq_emod_of_nonneg (Int.natCast_nonneg _)]
  generalize m / 2 ^ k = q
  omega
theorem half_pow (m k : Nat) : (((m / 2 ^ k : Nat) : Int)).tdiv 2 = ((m / 2 ^ (k + 1) : Nat) : Int) := by
  rw [Int.tdiv_eq_ediv_of_nonneg (Int.natCast_nonneg _), Nat.pow_succ, ← Nat.div_div_eq_div_mul]
  generalize m / 2 ^ k = q
  omega
set_option maxHeartbeats 4000000 in
theorem refSet_c (m : Nat) (hm : m < 4294967296) : ACalls Try.prog 29 [.one (.int .u32 m)] (.one (.list (ints (setOf m)))) [] := by
  (refine ACalls.of_body Ty_ok mixed Try.func29 rfl (by kernel_rfl) Try.ntmps29 (by simp) (congrArg Array.toList Try.results29) ?_)
  simp only [slotsOf]
  (repeat' (first | (with_reducible refine awp_seq ?_; intro K hK) | (with_reducible refine awp_reg ?_; simp only [go_sem]) | (with_reducible refine awp_drw (by kernel_rfl) ?_; simp only [go_sem]) | with_reducible refine awp_block ?_ | (with_reducible refine awp_exit ?_; simp only [go_sem]) | (with_reducible refine awp_ret ?_; simp only [retF, retO, resAV, AV.bor, D.bor, D.bor1, D.bor0, AV.flatOwn, D.flatOwn, D.flat, AV.tagged, D.tagged, AObj.plain, go_sem]) | (with_reducible refine awp_skip ?_; simp only [go_sem]) | (with_reducible refine awp_cond' ?_ ?_ (fun hb => ?_) (fun hb => ?_); (simp only [AV.theB, go_sem]); (simp only [go_sem]); all_goals (simp only [AV.theB, go_sem] at hb; try simp only [decide_eq_true_eq, decide_eq_false_iff_not, Bool.and_eq_true, Bool.or_eq_true, Bool.and_eq_false_iff, Bool.or_eq_false_iff, Bool.not_eq_true', Bool.not_eq_false', beq_iff_eq, bne_iff_ne, beq_eq_false_iff_ne, bne_eq_false_iff_eq, Int.not_lt, Int.not_le, ne_eq] at hb)) | (first | (with_reducible refine hK _ ?_; clear hK K) | (clear hK K; with_reducible refine hK _ ?_; clear hK K) | (clear hK K; clear hK K; with_reducible refine hK _ ?_; clear hK K) | (clear hK K; clear hK K; clear hK K; with_reducible refine hK _ ?_; clear hK K)) | exact True.intro | with_reducible refine And.intro ?_ ?_ | (omega; done) | (intro hv; (try simp only [decide_eq_true_eq, decide_eq_false_iff_not, Bool.and_eq_true, Bool.or_eq_true, Bool.and_eq_false_iff, Bool.or_eq_false_iff, Bool.not_eq_true', Bool.not_eq_false', beq_iff_eq, bne_iff_ne, beq_eq_false_iff_ne, bne_eq_false_iff_eq, Int.not_lt, Int.not_le, ne_eq] at hv); (try simp only [decide_eq_true_eq, decide_eq_false_iff_not, Bool.and_eq_true, Bool.or_eq_true, Bool.and_eq_false_iff, Bool.or_eq_false_iff, Bool.not_eq_true', Bool.not_eq_false', beq_iff_eq, bne_iff_ne, beq_eq_false_iff_ne, bne_eq_false_iff_eq, Int.not_lt, Int.not_le, ne_eq]); omega) | (intro hg; (simp only [hg, Bool.true_and, true_and, implies_true]; try (intro hg2; simp only [hg2, Bool.not_false, Bool.not_true])); done)))
  refine awp_loop _ (by simp only [go_sem]; rfl) Nat (fun k => k ≤ 32) (fun k => [(0, .one (.int .u32 ((m / 2 ^ k : Nat) : Int))), (3, .one (.own 1)), (4, .one (.int .i64 k))]) (fun k H => [.row 3 1 [], .row 3 1 (ints (bitsL m k))]) (fun k => 32 - k) 0 (by omega) ?_ ?_
  · (simp only [go_sem]; (try simp only [go_sem]); repeat' (first | exact True.intro | with_reducible refine And.intro ?_ ?_ | rfl | omega))
  · rintro k hk L hL
    have hlen := bitsL_length m k
    have hle : m / 2 ^ (k + 1) ≤ m := Nat.div_le_self _ _
    have hq : 0 ≤ (((m / 2 ^ k : Nat) : Int)).tdiv 2 ∧ (((m / 2 ^ k : Nat) : Int)).tdiv 2 < 4294967296 := by
      rw [half_pow]
      exact ⟨Int.natCast_nonneg _, Int.ofNat_lt.2 (Nat.lt_of_le_of_lt hle hm)⟩
    (simp only [go_sem] at hL ⊢)
    (repeat' (first | (with_reducible refine awp_seq ?_; intro K hK) | (with_reducible refine awp_reg ?_; simp only [go_sem]) | (with_reducible refine awp_drw (by kernel_rfl) ?_; simp only [go_sem]) | with_reducible refine awp_block ?_ | (with_reducible refine awp_exit ?_; simp only [go_sem]) | (with_reducible refine awp_ret ?_; simp only [retF, retO, resAV, AV.bor, D.bor, D.bor1, D.bor0, AV.flatOwn, D.flatOwn, D.flat, AV.tagged, D.tagged, AObj.plain, go_sem]) | (with_reducible refine awp_skip ?_; simp only [go_sem]) | (with_reducible refine awp_cond' ?_ ?_ (fun hb => ?_) (fun hb => ?_); (simp only [AV.theB, go_sem]); (simp only [go_sem]); all_goals (simp only [AV.theB, go_sem] at hb; try simp only [decide_eq_true_eq, decide_eq_false_iff_not, Bool.and_eq_true, Bool.or_eq_true, Bool.and_eq_false_iff, Bool.or_eq_false_iff, Bool.not_eq_true', Bool.not_eq_false', beq_iff_eq, bne_iff_ne, beq_eq_false_iff_ne, bne_eq_false_iff_eq, Int.not_lt, Int.not_le, ne_eq] at hb)) | (first | (with_reducible refine hK _ ?_; clear hK K) | (clear hK K; with_reducible refine hK _ ?_; clear hK K) | (clear hK K; clear hK K; with_reducible refine hK _ ?_; clear hK K) | (clear hK K; clear hK K; clear hK K; with_reducible refine hK _ ?_; clear hK K)) | exact True.intro | with_reducible refine And.intro ?_ ?_ | (omega; done) | (intro hv; (try simp only [decide_eq_true_eq, decide_eq_false_iff_not, Bool.and_eq_true, Bool.or_eq_true, Bool.and_eq_false_iff, Bool.or_eq_false_iff, Bool.not_eq_true', Bool.not_eq_false', beq_iff_eq, bne_iff_ne, beq_eq_false_iff_ne, bne_eq_false_iff_eq, Int.not_lt, Int.not_le, ne_eq] at hv); (try simp only [decide_eq_true_eq, decide_eq_false_iff_not, Bool.and_eq_true, Bool.or_eq_true, Bool.and_eq_false_iff, Bool.or_eq_false_iff, Bool.not_eq_true', Bool.not_eq_false', beq_iff_eq, bne_iff_ne, beq_eq_false_iff_ne, bne_eq_false_iff_eq, Int.not_lt, Int.not_le, ne_eq]); omega) | (intro hg; (simp only [hg, Bool.true_and, true_and, implies_true]; try (intro hg2; simp only [hg2, Bool.not_false, Bool.not_true])); done)))
    · rw [testBit_tmod] at hb
      have e := bitsL_succ m k
      rw [if_pos hb] at e
      simp only [half_pow, ints_one, ints_append, ← e]
      exact hL _ (k + 1) (by omega) (by (simp only [go_sem]; (try simp only [go_sem]); repeat' (first | exact True.intro | with_reducible refine And.intro ?_ ?_ | rfl | omega))) (by omega)
    · rw [testBit_tmod] at hb
      have e := bitsL_succ m k
      rw [if_neg hb, List.append_nil] at e
      simp only [half_pow, ← e]
      exact hL _ (k + 1) (by omega) (by (simp only [go_sem]; (try simp only [go_sem]); repeat' (first | exact True.intro | with_reducible refine And.intro ?_ ?_ | rfl | omega))) (by omega)
    · have : k = 32 := by omega
      subst this; rfl
theorem testBit_and (m k : Nat) (hm : m < 4294967296) (hk : k < 32) : bitV .and .u32 ((m : Int).fdiv (2 ^ min k 32)) 1 = 1 ↔ m.testBit k = true := by
  rw [Nat.min_eq_left (by omega), fdiv_nat, show (1 : Int) = ((1 : Nat) : Int) from rfl, and_u32 _ _ (Nat.lt_of_le_of_lt (Nat.div_le_self _ _) hm) (by omega), Nat.testBit_eq_decide_div_mod_eq, decide_eq_true_iff, Nat.and_one_is_mod]
  generalize m / 2 ^ k = q
  omega
set_option maxHeartbeats 4000000 in
theorem Set_c (m : Nat) (hm : m < 4294967296) : ACalls Try.prog 27 [.one (.int .u32 m)] (.one (.list (ints (setOf m)))) [] := by
  (refine ACalls.of_body Ty_ok mixed Try.func27 rfl (by kernel_rfl) Try.ntmps27 (by simp) (congrArg Array.toList Try.results27) ?_)
  simp only [slotsOf]
  (repeat' (first | (with_reducible refine awp_seq ?_; intro K hK) | (with_reducible refine awp_reg ?_; simp only [go_sem]) | (with_reducible refine awp_drw (by kernel_rfl) ?_; simp only [go_sem]) | with_reducible refine awp_block ?_ | (with_reducible refine awp_exit ?_; simp only [go_sem]) | (with_reducible refine awp_ret ?_; simp only [retF, retO, resAV, AV.bor, D.bor, D.bor1, D.bor0, AV.flatOwn, D.flatOwn, D.flat, AV.tagged, D.tagged, AObj.plain, go_sem]) | (with_reducible refine awp_skip ?_; simp only [go_sem]) | (with_reducible refine awp_cond' ?_ ?_ (fun hb => ?_) (fun hb => ?_); (simp only [AV.theB, go_sem]); (simp only [go_sem]); all_goals (simp only [AV.theB, go_sem] at hb; try simp only [decide_eq_true_eq, decide_eq_false_iff_not, Bool.and_eq_true, Bool.or_eq_true, Bool.and_eq_false_iff, Bool.or_eq_false_iff, Bool.not_eq_true', Bool.not_eq_false', beq_iff_eq, bne_iff_ne, beq_eq_false_iff_ne, bne_eq_false_iff_eq, Int.not_lt, Int.not_le, ne_eq] at hb)) | (first | (with_reducible refine hK _ ?_; clear hK K) | (clear hK K; with_reducible refine hK _ ?_; clear hK K) | (clear hK K; clear hK K; with_reducible refine hK _ ?_; clear hK K) | (clear hK K; clear hK K; clear hK K; with_reducible refine hK _ ?_; clear hK K)) | exact True.intro | with_reducible refine And.intro ?_ ?_ | (omega; done) | (intro hv; (try simp only [decide_eq_true_eq, decide_eq_false_iff_not, Bool.and_eq_true, Bool.or_eq_true, Bool.and_eq_false_iff, Bool.or_eq_false_iff, Bool.not_eq_true', Bool.not_eq_false', beq_iff_eq, bne_iff_ne, beq_eq_false_iff_ne, bne_eq_false_iff_eq, Int.not_lt, Int.not_le, ne_eq] at hv); (try simp only [decide_eq_true_eq, decide_eq_false_iff_not, Bool.and_eq_true, Bool.or_eq_true, Bool.and_eq_false_iff, Bool.or_eq_false_iff, Bool.not_eq_true', Bool.not_eq_false', beq_iff_eq, bne_iff_ne, beq_eq_false_iff_ne, bne_eq_false_iff_eq, Int.not_lt, Int.not_le, ne_eq]); omega) | (intro hg; (simp only [hg, Bool.true_and, true_and, implies_true]; try (intro hg2; simp only [hg2, Bool.not_false, Bool.not_true])); done)))
  refine awp_loop _ (by simp only [go_sem]; rfl) Nat (fun k => k ≤ 32) (fun k => [(3, .one (.own 1)), (5, .one (.int .i64 k))]) (fun k H => [.row 3 1 [], .row 3 1 (ints (bitsL m k))]) (fun k => 32 - k) 0 (by omega) ?_ ?_
  · (simp only [go_sem]; (try simp only [go_sem]); repeat' (first | exact True.intro | with_reducible refine And.intro ?_ ?_ | rfl | omega))
  · rintro k hk L hL
    have hlen := bitsL_length m k
    (simp only [go_sem] at hL ⊢)
    (repeat' (first | (with_reducible refine awp_seq ?_; intro K hK) | (with_reducible refine awp_reg ?_; simp only [go_sem]) | (with_reducible refine awp_drw (by kernel_rfl) ?_; simp only [go_sem]) | with_reducible refine awp_block ?_ | (with_reducible refine awp_exit ?_; simp only [go_sem]) | (with_reducible refine awp_ret ?_; simp only [retF, retO, resAV, AV.bor, D.bor, D.bor1, D.bor0, AV.flatOwn, D.flatOwn, D.flat, AV.tagged, D.tagged, AObj.plain, go_sem]) | (with_reducible refine awp_skip ?_; simp only [go_sem]) | (with_reducible refine awp_cond' ?_ ?_ (fun hb => ?_) (fun hb => ?_); (simp only [AV.theB, go_sem]); (simp only [go_sem]); all_goals (simp only [AV.theB, go_sem] at hb; try simp only [decide_eq_true_eq, decide_eq_false_iff_not, Bool.and_eq_true, Bool.or_eq_true, Bool.and_eq_false_iff, Bool.or_eq_false_iff, Bool.not_eq_true', Bool.not_eq_false', beq_iff_eq, bne_iff_ne, beq_eq_false_iff_ne, bne_eq_false_iff_eq, Int.not_lt, Int.not_le, ne_eq] at hb)) | (first | (with_reducible refine hK _ ?_; clear hK K) | (clear hK K; with_reducible refine hK _ ?_; clear hK K) | (clear hK K; clear hK K; with_reducible refine hK _ ?_; clear hK K) | (clear hK K; clear hK K; clear hK K; with_reducible refine hK _ ?_; clear hK K)) | exact True.intro | with_reducible refine And.intro ?_ ?_ | (omega; done) | (intro hv; (try simp only [decide_eq_true_eq, decide_eq_false_iff_not, Bool.and_eq_true, Bool.or_eq_true, Bool.and_eq_false_iff, Bool.or_eq_false_iff, Bool.not_eq_true', Bool.not_eq_false', beq_iff_eq, bne_iff_ne, beq_eq_false_iff_ne, bne_eq_false_iff_eq, Int.not_lt, Int.not_le, ne_eq] at hv); (try simp only [decide_eq_true_eq, decide_eq_false_iff_not, Bool.and_eq_true, Bool.or_eq_true, Bool.and_eq_false_iff, Bool.or_eq_false_iff, Bool.not_eq_true', Bool.not_eq_false', beq_iff_eq, bne_iff_ne, beq_eq_false_iff_ne, bne_eq_false_iff_eq, Int.not_lt, Int.not_le, ne_eq]); omega) | (intro hg; (simp only [hg, Bool.true_and, true_and, implies_true]; try (intro hg2; simp only [hg2, Bool.not_false, Bool.not_true])); done)))
    · rw [testBit_and m k hm (by omega)] at hb
      have e := bitsL_succ m k
      rw [if_pos hb] at e
      simp only [ints_one, ints_append, ← e]
      exact hL _ (k + 1) (by omega) (by (simp only [go_sem]; (try simp only [go_sem]); repeat' (first | exact True.intro | with_reducible refine And.intro ?_ ?_ | rfl | omega))) (by omega)
    · rw [testBit_and m k hm (by omega)] at hb
      have e := bitsL_succ m k
      rw [if_neg hb, List.append_nil] at e
      simp only [← e]
      exact hL _ (k + 1) (by omega) (by (simp only [go_sem]; (try simp only [go_sem]); repeat' (first | exact True.intro | with_reducible refine And.intro ?_ ?_ | rfl | omega))) (by omega)
    · have : k = 32 := by omega
      subst this; rfl
def maskOf (xs : List Int) : Nat := xs.foldl (fun a x => a ||| 2 ^ x.toNat) 0
theorem maskOf_snoc (xs : List Int) (x : Int) : maskOf (xs ++ [x]) = maskOf xs ||| 2 ^ x.toNat := by simp [maskOf, List.foldl_append]
theorem maskOf_testBit (xs : List Int) (i : Nat) : (maskOf xs).testBit i = true ↔ ∃ x ∈ xs, x.toNat = i := by
  unfold maskOf
  suffices h : ∀ (xs : List Int) (a : Nat), (xs.foldl (fun a x => a ||| 2 ^ x.toNat) a).testBit i = true ↔ a.testBit i = true ∨ ∃ x ∈ xs, x.toNat = i by
    rw [h]; simp
  intro xs
  induction xs with
  | nil => simp
  | cons x xs ih =>
    intro a
    rw [List.foldl_cons, ih, Nat.testBit_or, Nat.testBit_two_pow]
    simp [or_assoc]
theorem maskOf_lt (xs : List Int) (h : ∀ x ∈ xs, x < 32) : maskOf xs < 4294967296 := by
  have : maskOf xs < 2 ^ 32 := Nat.lt_pow_two_of_testBit _ fun i hi => by
    rw [Bool.eq_false_iff]
    intro ht
    obtain ⟨x, hx, rfl⟩ := (maskOf_testBit xs i).1 ht
    have := h x hx
    omega
  simpa using this
theorem csFrom_bounds (m : Int) : ∀ (xs : List Int) (p : Option Int), csFrom m xs p = 0 → ∀ x ∈ xs, 0 ≤ x ∧ x < m
  | [], _, _, x, hx => by cases hx
  | y :: xs, p, h, x, hx => by
    rw [csFrom] at h
    split at h
    · omega
    · split at h
      · omega
      · rcases List.mem_cons.1 hx with rfl | hx
        · omega
        · exact csFrom_bounds m xs _ h x hx
def maskB (xs : List Int) : Nat := if checkSet xs 32 = 0 then maskOf xs else 0
theorem mask_step (a : Nat) (x : Int) (ha : a < 4294967296) (h0 : 0 ≤ x) (h1 : x < 32) : bitV .or .u32 (a : Int) (IntKind.u32.wrap (1 * 2 ^ min x.toNat 32)) = ((a ||| 2 ^ x.toNat : Nat) : Int) := by
  have hp : 2 ^ x.toNat < 4294967296 := Nat.lt_of_lt_of_le (Nat.pow_lt_pow_right (by omega) (show x.toNat < 32 by omega)) (by omega)
  rw [Nat.min_eq_left (by omega), Int.one_mul, pow_nat, wrap_u32 _ (Int.natCast_nonneg _) (Int.ofNat_lt.2 hp), or_u32 _ _ ha hp]
set_option maxHeartbeats 4000000 in
theorem Mask_c (xs : List Int) (hn : xs.length ≤ 9223372036854775807) : ACalls Try.prog 28 [.one (.list (ints xs))] (.tup [.one (.int .u32 (maskB xs)), .one (.int .i64 (checkSet xs 32))]) [] := by
  (refine ACalls.of_body Ty_ok mixed Try.func28 rfl (by kernel_rfl) Try.ntmps28 (by simp) (congrArg Array.toList Try.results28) ?_)
  simp only [slotsOf]
  (repeat' (first | (first | (with_reducible refine awp_seq ?_; intro K hK) | (with_reducible refine awp_reg ?_; simp only [go_sem]) | (with_reducible refine awp_drw (by kernel_rfl) ?_; simp only [go_sem]) | with_reducible refine awp_block ?_ | (with_reducible refine awp_exit ?_; simp only [go_sem]) | (with_reducible refine awp_ret ?_; simp only [retF, retO, resAV, AV.bor, D.bor, D.bor1, D.bor0, AV.flatOwn, D.flatOwn, D.flat, AV.tagged, D.tagged, AObj.plain, go_sem]) | (with_reducible refine awp_skip ?_; simp only [go_sem]) | (with_reducible refine awp_cond' ?_ ?_ (fun hb => ?_) (fun hb => ?_); (simp only [AV.theB, go_sem]); (simp only [go_sem]); all_goals (simp only [AV.theB, go_sem] at hb; try simp only [decide_eq_true_eq, decide_eq_false_iff_not, Bool.and_eq_true, Bool.or_eq_true, Bool.and_eq_false_iff, Bool.or_eq_false_iff, Bool.not_eq_true', Bool.not_eq_false', beq_iff_eq, bne_iff_ne, beq_eq_false_iff_ne, bne_eq_false_iff_eq, Int.not_lt, Int.not_le, ne_eq] at hb)) | (first | (with_reducible refine hK _ ?_; clear hK K) | (clear hK K; with_reducible refine hK _ ?_; clear hK K) | (clear hK K; clear hK K; with_reducible refine hK _ ?_; clear hK K) | (clear hK K; clear hK K; clear hK K; with_reducible refine hK _ ?_; clear hK K)) | exact True.intro | with_reducible refine And.intro ?_ ?_ | (omega; done) | (intro hv; (try simp only [decide_eq_true_eq, decide_eq_false_iff_not, Bool.and_eq_true, Bool.or_eq_true, Bool.and_eq_false_iff, Bool.or_eq_false_iff, Bool.not_eq_true', Bool.not_eq_false', beq_iff_eq, bne_iff_ne, beq_eq_false_iff_ne, bne_eq_false_iff_eq, Int.not_lt, Int.not_le, ne_eq] at hv); (try simp only [decide_eq_true_eq, decide_eq_false_iff_not, Bool.and_eq_true, Bool.or_eq_true, Bool.and_eq_false_iff, Bool.or_eq_false_iff, Bool.not_eq_true', Bool.not_eq_false', beq_iff_eq, bne_iff_ne, beq_eq_false_iff_ne, bne_eq_false_iff_eq, Int.not_lt, Int.not_le, ne_eq]); omega) | (intro hg; (simp only [hg, Bool.true_and, true_and, implies_true]; try (intro hg2; simp only [hg2, Bool.not_false, Bool.not_true])); done)) | (refine CallAt_i (CheckSet_c xs 32 hn) (by simp only [go_sem]) (by simp only [go_sem]) (by (first | exact .inl ⟨rfl, rfl⟩ | exact callSafe_r0 rfl | exact callSafe_r1 rfl (ints_flat _) | exact callSafe_r1 rfl (by assumption))) ?_; simp only [go_sem]) | (refine GCallAt_i (fun hg => CheckSet_c xs 32 hn) (fun hg => (by first | exact hg | ((try simp only [decide_eq_true_eq, decide_eq_false_iff_not, Bool.and_eq_true, Bool.or_eq_true, Bool.and_eq_false_iff, Bool.or_eq_false_iff, Bool.not_eq_true', Bool.not_eq_false', beq_iff_eq, bne_iff_ne, beq_eq_false_iff_ne, bne_eq_false_iff_eq, Int.not_lt, Int.not_le, ne_eq] at hg); (try simp only [go_sem]); (try simp only [decide_eq_true_eq, decide_eq_false_iff_not, Bool.and_eq_true, Bool.or_eq_true, Bool.and_eq_false_iff, Bool.or_eq_false_iff, Bool.not_eq_true', Bool.not_eq_false', beq_iff_eq, bne_iff_ne, beq_eq_false_iff_ne, bne_eq_false_iff_eq, Int.not_lt, Int.not_le, ne_eq]); first | done | omega | exact hg))) (by simp only [go_sem]) (by (first | exact .inl ⟨rfl, rfl⟩ | exact callSafe_r0 rfl | exact callSafe_r1 rfl (ints_flat _) | exact callSafe_r1 rfl (by assumption))) ?_; simp only [go_sem]) | (refine DCallAt_i (CheckSet_c xs 32 hn) (by simp only [go_sem]) (by simp only [go_sem]) (by (first | exact .inl ⟨rfl, rfl⟩ | exact callSafe_r0 rfl | exact callSafe_r1 rfl (ints_flat _) | exact callSafe_r1 rfl (by assumption))) ?_; simp only [go_sem])))
  · rw [maskB, if_neg hb]; rfl
  have hc := hb
  have hbd := csFrom_bounds 32 xs none hb
  refine awp_loop _ (by simp only [go_sem]; rfl) Nat (fun k => k ≤ xs.length) (fun k => [(5, .one (.int .u32 (maskOf (xs.take k)))), (15, .one (.int .i64 k))]) (fun _ H => H) (fun k => xs.length - k) 0 (by omega) ?_ ?_
  · (simp only [go_sem]; (try simp only [go_sem]); repeat' (first | exact True.intro | with_reducible refine And.intro ?_ ?_ | rfl | omega))
  · rintro k hk L hL
    have hx : k < xs.length → 0 ≤ xs.getD k 0 ∧ xs.getD k 0 < 32 := fun h => hbd _ (getD_mem xs k 0 h)
    (simp only [go_sem] at hL ⊢)
    (repeat' (first | (with_reducible refine awp_seq ?_; intro K hK) | (with_reducible refine awp_reg ?_; simp only [go_sem]) | (with_reducible refine awp_drw (by kernel_rfl) ?_; simp only [go_sem]) | with_reducible refine awp_block ?_ | (with_reducible refine awp_exit ?_; simp only [go_sem]) | (with_reducible refine awp_ret ?_; simp only [retF, retO, resAV, AV.bor, D.bor, D.bor1, D.bor0, AV.flatOwn, D.flatOwn, D.flat, AV.tagged, D.tagged, AObj.plain, go_sem]) | (with_reducible refine awp_skip ?_; simp only [go_sem]) | (with_reducible refine awp_cond' ?_ ?_ (fun hb => ?_) (fun hb => ?_); (simp only [AV.theB, go_sem]); (simp only [go_sem]); all_goals (simp only [AV.theB, go_sem] at hb; try simp only [decide_eq_true_eq, decide_eq_false_iff_not, Bool.and_eq_true, Bool.or_eq_true, Bool.and_eq_false_iff, Bool.or_eq_false_iff, Bool.not_eq_true', Bool.not_eq_false', beq_iff_eq, bne_iff_ne, beq_eq_false_iff_ne, bne_eq_false_iff_eq, Int.not_lt, Int.not_le, ne_eq] at hb)) | (first | (with_reducible refine hK _ ?_; clear hK K) | (clear hK K; with_reducible refine hK _ ?_; clear hK K) | (clear hK K; clear hK K; with_reducible refine hK _ ?_; clear hK K) | (clear hK K; clear hK K; clear hK K; with_reducible refine hK _ ?_; clear hK K)) | exact True.intro | with_reducible refine And.intro ?_ ?_ | (omega; done) | (intro hv; (try simp only [decide_eq_true_eq, decide_eq_false_iff_not, Bool.and_eq_true, Bool.or_eq_true, Bool.and_eq_false_iff, Bool.or_eq_false_iff, Bool.not_eq_true', Bool.not_eq_false', beq_iff_eq, bne_iff_ne, beq_eq_false_iff_ne, bne_eq_false_iff_eq, Int.not_lt, Int.not_le, ne_eq] at hv); (try simp only [decide_eq_true_eq, decide_eq_false_iff_not, Bool.and_eq_true, Bool.or_eq_true, Bool.and_eq_false_iff, Bool.or_eq_false_iff, Bool.not_eq_true', Bool.not_eq_false', beq_iff_eq, bne_iff_ne, beq_eq_false_iff_ne, bne_eq_false_iff_eq, Int.not_lt, Int.not_le, ne_eq]); omega) | (intro hg; (simp only [hg, Bool.true_and, true_and, implies_true]; try (intro hg2; simp only [hg2, Bool.not_false, Bool.not_true])); done)))
    · obtain ⟨h0, h1⟩ := hx (by omega)
      simp only [mask_step _ _ (maskOf_lt (xs.take k) fun x h => (hbd x (List.mem_of_mem_take h)).2) h0 h1, ← maskOf_snoc, ← take_succ_getD xs k 0 (by omega)]
      exact hL _ (k + 1) (by omega) (by (simp only [go_sem]; (try simp only [go_sem]); repeat' (first | exact True.intro | with_reducible refine And.intro ?_ ?_ | rfl | omega))) (by omega)
    · rw [maskB, if_pos hc, List.take_of_length_le (by omega)]
    all_goals rw [hc]
def strs (l : List (List UInt8)) : List (List D) := l.map fun s => [.str s]
theorem strs_length (l : List (List UInt8)) : (strs l).length = l.length := by simp [strs]
theorem strs_getD (l : List (List UInt8)) (k : Nat) : (strs l).getD k [.str []] = [.str (l.getD k [])] := by
  simp only [strs, List.getD, List.getElem?_map]
  cases l[k]? <;> rfl
theorem strs_append (xs ys : List (List UInt8)) : strs xs ++ strs ys = strs (xs ++ ys) := by simp [strs]
theorem strs_one (s : List UInt8) : [[D.str s]] = strs [s] := rfl
theorem strs_sz (l : List (List UInt8)) : (∀ r : List D, r ∈ strs l → r.length = 1) ↔ True := ⟨fun _ => trivial, fun _ r hr => by obtain ⟨e, _, rfl⟩ := List.mem_map.1 hr; rfl⟩
attribute [go_sem] strs_length strs_getD strs_sz
def namesOf (l : List Ev) (xs : List Int) : List (List UInt8) := xs.map fun x => (l.getD x.toNat Ev.no).name
theorem namesOf_snoc (l : List Ev) (xs : List Int) (x : Int) : namesOf l (xs ++ [x]) = namesOf l xs ++ [(l.getD x.toNat Ev.no).name] := by simp [namesOf]
def namesE (l : List Ev) (xs : List Int) : Int := if checkEv l = 0 then checkSet xs l.length else checkEv l
def namesB (l : List Ev) (xs : List Int) : List (List UInt8) := if namesE l xs = 0 then namesOf l xs else []
set_option maxHeartbeats 4000000 in
theorem Names_c (l : List Ev) (xs : List Int) (hl : l.length ≤ 9223372036854775807) (hs : Short l) (hn : xs.length ≤ 1000000) : ACalls Try.prog 30 [.one (.list (evs l)), .one (.list (ints xs))] (.tup [.one (.list (strs (namesB l xs))), .one (.int .i64 (namesE l xs))]) [] := by
  (refine ACalls.of_body Ty_ok mixed Try.func30 rfl (by kernel_rfl) Try.ntmps30 (by simp) (congrArg Array.toList Try.results30) ?_)
  simp only [slotsOf]
  (repeat' (first | (first | (with_reducible refine awp_seq ?_; intro K hK) | (with_reducible refine awp_reg ?_; simp only [go_sem]) | (with_reducible refine awp_drw (by kernel_rfl) ?_; simp only [go_sem]) | with_reducible refine awp_block ?_ | (with_reducible refine awp_exit ?_; simp only [go_sem]) | (with_reducible refine awp_ret ?_; simp only [retF, retO, resAV, AV.bor, D.bor, D.bor1, D.bor0, AV.flatOwn, D.flatOwn, D.flat, AV.tagged, D.tagged, AObj.plain, go_sem]) | (with_reducible refine awp_skip ?_; simp only [go_sem]) | (with_reducible refine awp_cond' ?_ ?_ (fun hb => ?_) (fun hb => ?_); (simp only [AV.theB, go_sem]); (simp only [go_sem]); all_goals (simp only [AV.theB, go_sem] at hb; try simp only [decide_eq_true_eq, decide_eq_false_iff_not, Bool.and_eq_true, Bool.or_eq_true, Bool.and_eq_false_iff, Bool.or_eq_false_iff, Bool.not_eq_true', Bool.not_eq_false', beq_iff_eq, bne_iff_ne, beq_eq_false_iff_ne, bne_eq_false_iff_eq, Int.not_lt, Int.not_le, ne_eq] at hb)) | (first | (with_reducible refine hK _ ?_; clear hK K) | (clear hK K; with_reducible refine hK _ ?_; clear hK K) | (clear hK K; clear hK K; with_reducible refine hK _ ?_; clear hK K) | (clear hK K; clear hK K; clear hK K; with_reducible refine hK _ ?_; clear hK K)) | exact True.intro | with_reducible refine And.intro ?_ ?_ | (omega; done) | (intro hv; (try simp only [decide_eq_true_eq, decide_eq_false_iff_not, Bool.and_eq_true, Bool.or_eq_true, Bool.and_eq_false_iff, Bool.or_eq_false_iff, Bool.not_eq_true', Bool.not_eq_false', beq_iff_eq, bne_iff_ne, beq_eq_false_iff_ne, bne_eq_false_iff_eq, Int.not_lt, Int.not_le, ne_eq] at hv); (try simp only [decide_eq_true_eq, decide_eq_false_iff_not, Bool.and_eq_true, Bool.or_eq_true, Bool.and_eq_false_iff, Bool.or_eq_false_iff, Bool.not_eq_true', Bool.not_eq_false', beq_iff_eq, bne_iff_ne, beq_eq_false_iff_ne, bne_eq_false_iff_eq, Int.not_lt, Int.not_le, ne_eq]); omega) | (intro hg; (simp only [hg, Bool.true_and, true_and, implies_true]; try (intro hg2; simp only [hg2, Bool.not_false, Bool.not_true])); done)) | (refine CallAt_i (Check_c l hl hs) (by simp only [go_sem]) (by simp only [go_sem]) (by (first | exact .inl ⟨rfl, rfl⟩ | exact callSafe_r0 rfl | exact callSafe_r1 rfl (ints_flat _) | exact callSafe_r1 rfl (by assumption))) ?_; simp only [go_sem]) | (refine GCallAt_i (fun hg => Check_c l hl hs) (fun hg => (by first | exact hg | ((try simp only [decide_eq_true_eq, decide_eq_false_iff_not, Bool.and_eq_true, Bool.or_eq_true, Bool.and_eq_false_iff, Bool.or_eq_false_iff, Bool.not_eq_true', Bool.not_eq_false', beq_iff_eq, bne_iff_ne, beq_eq_false_iff_ne, bne_eq_false_iff_eq, Int.not_lt, Int.not_le, ne_eq] at hg); (try simp only [go_sem]); (try simp only [decide_eq_true_eq, decide_eq_false_iff_not, Bool.and_eq_true, Bool.or_eq_true, Bool.and_eq_false_iff, Bool.or_eq_false_iff, Bool.not_eq_true', Bool.not_eq_false', beq_iff_eq, bne_iff_ne, beq_eq_false_iff_ne, bne_eq_false_iff_eq, Int.not_lt, Int.not_le, ne_eq]); first | done | omega | exact hg))) (by simp only [go_sem]) (by (first | exact .inl ⟨rfl, rfl⟩ | exact callSafe_r0 rfl | exact callSafe_r1 rfl (ints_flat _) | exact callSafe_r1 rfl (by assumption))) ?_; simp only [go_sem]) | (refine DCallAt_i (Check_c l hl hs) (by simp only [go_sem]) (by simp only [go_sem]) (by (first | exact .inl ⟨rfl, rfl⟩ | exact callSafe_r0 rfl | exact callSafe_r1 rfl (ints_flat _) | exact callSafe_r1 rfl (by assumption))) ?_; simp only [go_sem]) | (refine CallAt_i (CheckSet_c xs l.length (by omega)) (by simp only [go_sem]) (by simp only [go_sem]) (by (first | exact .inl ⟨rfl, rfl⟩ | exact callSafe_r0 rfl | exact callSafe_r1 rfl (ints_flat _) | exact callSafe_r1 rfl (by assumption))) ?_; simp only [go_sem]) | (refine GCallAt_i (fun hg => CheckSet_c xs l.length (by omega)) (fun hg => (by first | exact hg | ((try simp only [decide_eq_true_eq, decide_eq_false_iff_not, Bool.and_eq_true, Bool.or_eq_true, Bool.and_eq_false_iff, Bool.or_eq_false_iff, Bool.not_eq_true', Bool.not_eq_false', beq_iff_eq, bne_iff_ne, beq_eq_false_iff_ne, bne_eq_false_iff_eq, Int.not_lt, Int.not_le, ne_eq] at hg); (try simp only [go_sem]); (try simp only [decide_eq_true_eq, decide_eq_false_iff_not, Bool.and_eq_true, Bool.or_eq_true, Bool.and_eq_false_iff, Bool.or_eq_false_iff, Bool.not_eq_true', Bool.not_eq_false', beq_iff_eq, bne_iff_ne, beq_eq_false_iff_ne, bne_eq_false_iff_eq, Int.not_lt, Int.not_le, ne_eq]); first | done | omega | exact hg))) (by simp only [go_sem]) (by (first | exact .inl ⟨rfl, rfl⟩ | exact callSafe_r0 rfl | exact callSafe_r1 rfl (ints_flat _) | exact callSafe_r1 rfl (by assumption))) ?_; simp only [go_sem]) | (refine DCallAt_i (CheckSet_c xs l.length (by omega)) (by simp only [go_sem]) (by simp only [go_sem]) (by (first | exact .inl ⟨rfl, rfl⟩ | exact callSafe_r0 rfl | exact callSafe_r1 rfl (ints_flat _) | exact callSafe_r1 rfl (by assumption))) ?_; simp only [go_sem])))
  · rw [namesB, namesE, if_neg hb, if_neg hb]; rfl
  · rw [namesE, if_neg hb]
  · rename_i h; rw [namesB, namesE, if_pos h, if_neg hb]; rfl
  · rename_i h; rw [namesE, if_pos h]
  rename_i hc
  have hd := hb
  have he : namesE l xs = 0 := by rw [namesE, if_pos hc, hd]
  have hbd := csFrom_bounds l.length xs none hd
  refine awp_loop _ (by simp only [go_sem]; rfl) Nat (fun k => k ≤ xs.length) (fun k => [(8, .one (.own 1)), (25, .one (.int .i64 k))]) (fun k _ => [.row 9 1 [], .row 9 1 (strs (namesOf l (xs.take k)))]) (fun k => xs.length - k) 0 (by omega) ?_ ?_
  · (simp only [go_sem]; (try simp only [go_sem]); repeat' (first | exact True.intro | with_reducible refine And.intro ?_ ?_ | rfl | omega))
  · rintro k hk L hL
    have hx : k < xs.length → 0 ≤ xs.getD k 0 ∧ xs.getD k 0 < l.length := fun h => hbd _ (getD_mem xs k 0 h)
    have hlen : (namesOf l (xs.take k)).length ≤ k := by simp [namesOf]; omega
    (simp only [go_sem] at hL ⊢)
    (repeat' (first | (with_reducible refine awp_seq ?_; intro K hK) | (with_reducible refine awp_reg ?_; simp only [go_sem]) | (with_reducible refine awp_drw (by kernel_rfl) ?_; simp only [go_sem]) | with_reducible refine awp_block ?_ | (with_reducible refine awp_exit ?_; simp only [go_sem]) | (with_reducible refine awp_ret ?_; simp only [retF, retO, resAV, AV.bor, D.bor, D.bor1, D.bor0, AV.flatOwn, D.flatOwn, D.flat, AV.tagged, D.tagged, AObj.plain, go_sem]) | (with_reducible refine awp_skip ?_; simp only [go_sem]) | (with_reducible refine awp_cond' ?_ ?_ (fun hb => ?_) (fun hb => ?_); (simp only [AV.theB, go_sem]); (simp only [go_sem]); all_goals (simp only [AV.theB, go_sem] at hb; try simp only [decide_eq_true_eq, decide_eq_false_iff_not, Bool.and_eq_true, Bool.or_eq_true, Bool.and_eq_false_iff, Bool.or_eq_false_iff, Bool.not_eq_true', Bool.not_eq_false', beq_iff_eq, bne_iff_ne, beq_eq_false_iff_ne, bne_eq_false_iff_eq, Int.not_lt, Int.not_le, ne_eq] at hb)) | (first | (with_reducible refine hK _ ?_; clear hK K) | (clear hK K; with_reducible refine hK _ ?_; clear hK K) | (clear hK K; clear hK K; with_reducible refine hK _ ?_; clear hK K) | (clear hK K; clear hK K; clear hK K; with_reducible refine hK _ ?_; clear hK K)) | exact True.intro | with_reducible refine And.intro ?_ ?_ | (omega; done) | (intro hv; (try simp only [decide_eq_true_eq, decide_eq_false_iff_not, Bool.and_eq_true, Bool.or_eq_true, Bool.and_eq_false_iff, Bool.or_eq_false_iff, Bool.not_eq_true', Bool.not_eq_false', beq_iff_eq, bne_iff_ne, beq_eq_false_iff_ne, bne_eq_false_iff_eq, Int.not_lt, Int.not_le, ne_eq] at hv); (try simp only [decide_eq_true_eq, decide_eq_false_iff_not, Bool.and_eq_true, Bool.or_eq_true, Bool.and_eq_false_iff, Bool.or_eq_false_iff, Bool.not_eq_true', Bool.not_eq_false', beq_iff_eq, bne_iff_ne, beq_eq_false_iff_ne, bne_eq_false_iff_eq, Int.not_lt, Int.not_le, ne_eq]); omega) | (intro hg; (simp only [hg, Bool.true_and, true_and, implies_true]; try (intro hg2; simp only [hg2, Bool.not_false, Bool.not_true])); done)))
    · simp only [strs_one, strs_append, ← namesOf_snoc, ← take_succ_getD xs k 0 (by omega)]
      exact hL _ (k + 1) (by omega) (by (simp only [go_sem]; (try simp only [go_sem]); repeat' (first | exact True.intro | with_reducible refine And.intro ?_ ?_ | rfl | omega))) (by omega)
    · rw [namesB, if_pos he, List.take_of_length_le (by omega)]
    all_goals rw [he]
def exampleL : List Ev := [⟨[115, 116, 97, 114, 116], true, true, false, 0⟩, ⟨[102, 105, 110, 105, 115, 104], false, true, false, 0⟩, ⟨[98, 114, 101, 97, 107], false, false, false, 1⟩]
set_option maxHeartbeats 4000000 in
theorem Example_c : ACalls Try.prog 44 [] (.one (.list (evs exampleL))) [] := by
  (refine ACalls.of_body Ty_ok mixed Try.func44 rfl (by kernel_rfl) Try.ntmps44 (by simp) (congrArg Array.toList Try.results44) ?_)
  simp only [slotsOf]
  (repeat' (first | (with_reducible refine awp_seq ?_; intro K hK) | (with_reducible refine awp_reg ?_; simp only [go_sem]) | (with_reducible refine awp_drw (by kernel_rfl) ?_; simp only [go_sem]) | with_reducible refine awp_block ?_ | (with_reducible refine awp_exit ?_; simp only [go_sem]) | (with_reducible refine awp_ret ?_; simp only [retF, retO, resAV, AV.bor, D.bor, D.bor1, D.bor0, AV.flatOwn, D.flatOwn, D.flat, AV.tagged, D.tagged, AObj.plain, go_sem]) | (with_reducible refine awp_skip ?_; simp only [go_sem]) | (with_reducible refine awp_cond' ?_ ?_ (fun hb => ?_) (fun hb => ?_); (simp only [AV.theB, go_sem]); (simp only [go_sem]); all_goals (simp only [AV.theB, go_sem] at hb; try simp only [decide_eq_true_eq, decide_eq_false_iff_not, Bool.and_eq_true, Bool.or_eq_true, Bool.and_eq_false_iff, Bool.or_eq_false_iff, Bool.not_eq_true', Bool.not_eq_false', beq_iff_eq, bne_iff_ne, beq_eq_false_iff_ne, bne_eq_false_iff_eq, Int.not_lt, Int.not_le, ne_eq] at hb)) | (first | (with_reducible refine hK _ ?_; clear hK K) | (clear hK K; with_reducible refine hK _ ?_; clear hK K) | (clear hK K; clear hK K; with_reducible refine hK _ ?_; clear hK K) | (clear hK K; clear hK K; clear hK K; with_reducible refine hK _ ?_; clear hK K)) | exact True.intro | with_reducible refine And.intro ?_ ?_ | (omega; done) | (intro hv; (try simp only [decide_eq_true_eq, decide_eq_false_iff_not, Bool.and_eq_true, Bool.or_eq_true, Bool.and_eq_false_iff, Bool.or_eq_false_iff, Bool.not_eq_true', Bool.not_eq_false', beq_iff_eq, bne_iff_ne, beq_eq_false_iff_ne, bne_eq_false_iff_eq, Int.not_lt, Int.not_le, ne_eq] at hv); (try simp only [decide_eq_true_eq, decide_eq_false_iff_not, Bool.and_eq_true, Bool.or_eq_true, Bool.and_eq_false_iff, Bool.or_eq_false_iff, Bool.not_eq_true', Bool.not_eq_false', beq_iff_eq, bne_iff_ne, beq_eq_false_iff_ne, bne_eq_false_iff_eq, Int.not_lt, Int.not_le, ne_eq]); omega) | (intro hg; (simp only [hg, Bool.true_and, true_and, implies_true]; try (intro hg2; simp only [hg2, Bool.not_false, Bool.not_true])); done)))
  rfl
end Go.Proofs.Ytdhkmgnhbllbfaa
