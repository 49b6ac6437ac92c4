/-
  Contracts: names.
-/
import Derived.Test.YtdhkmgnhbllbfaaTab
import Derived.Test.YtdhkmgnhbllbfaaEngQ
set_option linter.unusedSimpArgs false
set_option linter.unusedVariables false
namespace Go.Proofs.Ytdhkmgnhbllbfaa
open Go.Eng Go.RowKit
theorem drop_getD {α : Type} (xs : List α) (k : Nat) (d : α) (h : k < xs.length) : xs.drop k = xs.getD k d :: xs.drop (k + 1) := by
  rw [List.drop_eq_getElem_cons h]; simp [List.getD, List.getElem?_eq_getElem h]
theorem drop_end {α : Type} (xs : List α) (k : Nat) (h : xs.length ≤ k) : xs.drop k = [] := List.drop_of_length_le h
def letterB (c : Int) : Bool := (decide (97 ≤ c) && decide (c ≤ 122)) || (decide (65 ≤ c) && decide (c ≤ 90)) || (c == 95)
def digitB (c : Int) : Bool := decide (48 ≤ c) && decide (c ≤ 57)
def okAt (k : Nat) (c : Int) : Bool := letterB c || (decide (0 < k) && digitB c)
def okFrom : Nat → List UInt8 → Bool
  | _, [] => true
  | k, c :: l => okAt k c.toNat && okFrom (k + 1) l
def isNameB (l : List UInt8) : Bool := okFrom 0 l && decide (0 < l.length) && decide (l.length ≤ 32)
theorem okAt_true {k : Nat} {c : Int} (h : okAt k c = true) : (97 ≤ c ∧ c ≤ 122) ∨ (65 ≤ c ∧ c ≤ 90) ∨ c = 95 ∨ (0 < k ∧ 48 ≤ c ∧ c ≤ 57) := by
  simp only [okAt, letterB, digitB, Bool.or_eq_true, Bool.and_eq_true, decide_eq_true_eq, beq_iff_eq] at h; omega
theorem okAt_false {k : Nat} {c : Int} (h : okAt k c = false) : ¬ ((97 ≤ c ∧ c ≤ 122) ∨ (65 ≤ c ∧ c ≤ 90) ∨ c = 95 ∨ (0 < k ∧ 48 ≤ c ∧ c ≤ 57)) := by
  intro hh
  have : okAt k c = true := by simp only [okAt, letterB, digitB, Bool.or_eq_true, Bool.and_eq_true, decide_eq_true_eq, beq_iff_eq]; omega
  rw [h] at this; cases this
theorem okFrom_cons {s : List UInt8} {k : Nat} {b : Bool} (hk : k < s.length) (h : b = okFrom k (s.drop k)) : b = (okAt k ((s.getD k 0).toNat : Int) && okFrom (k + 1) (s.drop (k + 1))) := by
  rw [drop_getD s k 0 hk] at h; exact h
set_option maxHeartbeats 1000000 in
theorem IsName_c (s : List UInt8) (hn : s.length ≤ 1000) : ACalls Try.prog 15 [.one (.str s)] (.one (.bool (isNameB s))) [] := by
  (refine ACalls.of_body Ty_ok mixed Try.func15 rfl (by kernel_rfl) Try.ntmps15 (by simp) (congrArg Array.toList Try.results15) ?_)
  simp only [slotsOf]
  (repeat' (first | (with_reducible refine awp_seq ?_; intro K hK) | (with_reducible refine GCallAt_no ?_ ?_ <;> (simp only [go_sem])) | (with_reducible refine gsplit_i (fun hg0 => ?_) (fun hg0 => ?_) <;> (simp only [hg0, go_sem])) | (with_reducible refine awp_reg ?_; simp only [go_sem]) | (with_reducible refine awp_drw (by kernel_rfl) ?_; simp only [go_sem]) | with_reducible refine awp_block ?_ | (with_reducible refine awp_exit ?_; simp only [go_sem]) | (with_reducible refine awp_ret ?_; simp only [retF, retM, retL, resV, resW, retO, resAV, AV.bor, D.bor, D.bor1, D.bor0, AV.flatOwn, D.flatOwn, D.flat, AV.tagged, D.tagged, AObj.plain, go_sem]) | (with_reducible refine awp_skip ?_; simp only [go_sem]) | (with_reducible refine awp_cond' ?_ ?_ (fun hb => ?_) (fun hb => ?_); (simp only [AV.theB, go_sem]); (simp only [go_sem]); all_goals (simp only [AV.theB, go_sem] at hb; try simp only [decide_eq_true_eq, decide_eq_false_iff_not, Bool.and_eq_true, Bool.or_eq_true, Bool.and_eq_false_iff, Bool.or_eq_false_iff, Bool.not_eq_true', Bool.not_eq_false', beq_iff_eq, bne_iff_ne, beq_eq_false_iff_ne, bne_eq_false_iff_eq, Int.not_lt, Int.not_le, ne_eq] at hb)) | (first | (with_reducible refine hK _ ?_; clear hK K) | (clear hK K; with_reducible refine hK _ ?_; clear hK K) | (clear hK K; clear hK K; with_reducible refine hK _ ?_; clear hK K) | (clear hK K; clear hK K; clear hK K; with_reducible refine hK _ ?_; clear hK K)) | exact True.intro | with_reducible refine And.intro ?_ ?_ | (omega; done) | (intro hv; (try simp only [decide_eq_true_eq, decide_eq_false_iff_not, Bool.and_eq_true, Bool.or_eq_true, Bool.and_eq_false_iff, Bool.or_eq_false_iff, Bool.not_eq_true', Bool.not_eq_false', beq_iff_eq, bne_iff_ne, beq_eq_false_iff_ne, bne_eq_false_iff_eq, Int.not_lt, Int.not_le, ne_eq] at hv); (try simp only [decide_eq_true_eq, decide_eq_false_iff_not, Bool.and_eq_true, Bool.or_eq_true, Bool.and_eq_false_iff, Bool.or_eq_false_iff, Bool.not_eq_true', Bool.not_eq_false', beq_iff_eq, bne_iff_ne, beq_eq_false_iff_ne, bne_eq_false_iff_eq, Int.not_lt, Int.not_le, ne_eq]); omega) | (intro hg; (simp only [hg, Bool.true_and, true_and, implies_true]; try (intro hg2; simp only [hg2, Bool.not_false, Bool.not_true])); done)))
  refine awp_loop _ (by simp only [go_sem]; rfl) Nat (fun k => k ≤ s.length ∧ okFrom 0 s = okFrom k (s.drop k)) (fun k => [(8, .one (.int .i64 k))]) (fun _ H => H) (fun k => s.length - k) 0 ⟨by omega, by simp⟩ ?_ ?_
  · (simp only [SubF, go_sem]; (try simp only [go_sem]); repeat' (first | exact True.intro | with_reducible refine And.intro ?_ ?_ | rfl | omega))
  · rintro k ⟨hk, hres⟩ L hL
    (simp only [go_sem] at hL ⊢)
    (repeat' (first | (with_reducible refine awp_seq ?_; intro K hK) | (with_reducible refine GCallAt_no ?_ ?_ <;> (simp only [go_sem])) | (with_reducible refine gsplit_i (fun hg0 => ?_) (fun hg0 => ?_) <;> (simp only [hg0, go_sem])) | (with_reducible refine awp_reg ?_; simp only [go_sem]) | (with_reducible refine awp_drw (by kernel_rfl) ?_; simp only [go_sem]) | with_reducible refine awp_block ?_ | (with_reducible refine awp_exit ?_; simp only [go_sem]) | (with_reducible refine awp_ret ?_; simp only [retF, retM, retL, resV, resW, retO, resAV, AV.bor, D.bor, D.bor1, D.bor0, AV.flatOwn, D.flatOwn, D.flat, AV.tagged, D.tagged, AObj.plain, go_sem]) | (with_reducible refine awp_skip ?_; simp only [go_sem]) | (with_reducible refine awp_cond' ?_ ?_ (fun hb => ?_) (fun hb => ?_); (simp only [AV.theB, go_sem]); (simp only [go_sem]); all_goals (simp only [AV.theB, go_sem] at hb; try simp only [decide_eq_true_eq, decide_eq_false_iff_not, Bool.and_eq_true, Bool.or_eq_true, Bool.and_eq_false_iff, Bool.or_eq_false_iff, Bool.not_eq_true', Bool.not_eq_false', beq_iff_eq, bne_iff_ne, beq_eq_false_iff_ne, bne_eq_false_iff_eq, Int.not_lt, Int.not_le, ne_eq] at hb)) | (first | (with_reducible refine hK _ ?_; clear hK K) | (clear hK K; with_reducible refine hK _ ?_; clear hK K) | (clear hK K; clear hK K; with_reducible refine hK _ ?_; clear hK K) | (clear hK K; clear hK K; clear hK K; with_reducible refine hK _ ?_; clear hK K)) | exact True.intro | with_reducible refine And.intro ?_ ?_ | (omega; done) | (intro hv; (try simp only [decide_eq_true_eq, decide_eq_false_iff_not, Bool.and_eq_true, Bool.or_eq_true, Bool.and_eq_false_iff, Bool.or_eq_false_iff, Bool.not_eq_true', Bool.not_eq_false', beq_iff_eq, bne_iff_ne, beq_eq_false_iff_ne, bne_eq_false_iff_eq, Int.not_lt, Int.not_le, ne_eq] at hv); (try simp only [decide_eq_true_eq, decide_eq_false_iff_not, Bool.and_eq_true, Bool.or_eq_true, Bool.and_eq_false_iff, Bool.or_eq_false_iff, Bool.not_eq_true', Bool.not_eq_false', beq_iff_eq, bne_iff_ne, beq_eq_false_iff_ne, bne_eq_false_iff_eq, Int.not_lt, Int.not_le, ne_eq]); omega) | (intro hg; (simp only [hg, Bool.true_and, true_and, implies_true]; try (intro hg2; simp only [hg2, Bool.not_false, Bool.not_true])); done)))
    · rw [isNameB, okFrom_cons (by omega) hres]
      cases hc : okAt k ((s.getD k 0).toNat : Int) with
      | false => rfl
      | true => have := okAt_true hc; omega
    · have h1 := okFrom_cons (by omega) hres
      cases hc : okAt k ((s.getD k 0).toNat : Int) with
      | false => have := okAt_false hc; omega
      | true =>
        rw [hc, Bool.true_and] at h1
        exact hL _ (k + 1) ⟨by omega, h1⟩ (by (simp only [SubF, go_sem]; (try simp only [go_sem]); repeat' (first | exact True.intro | with_reducible refine And.intro ?_ ?_ | rfl | omega))) (by omega)
    · rw [drop_end s k (by omega)] at hres
      simp only [isNameB, hres, okFrom, Bool.true_and]
      rw [Bool.eq_iff_iff]; simp; omega
end Go.Proofs.Ytdhkmgnhbllbfaa
