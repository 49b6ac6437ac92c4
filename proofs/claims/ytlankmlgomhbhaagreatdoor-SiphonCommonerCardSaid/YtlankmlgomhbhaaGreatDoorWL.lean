/-
 Contracts: chapter 49's law: all sets of places, its minimal and greatest sets.
-/
import Derived.Test.YtlankmlgomhbhaaGreatDoorWK
set_option linter.unusedSimpArgs false
set_option linter.unusedVariables false
namespace Go.Proofs.YtlankmlgomhbhaaGreatDoor
open Go.Eng Go.RowKit
theorem shl_i64 (p : Nat) (hp : p ≤ 10) : IntKind.i64.wrap (1 * 2 ^ min p 64) = ((2 ^ p : Nat) : Int) := by
 have : p = 0 ∨ p = 1 ∨ p = 2 ∨ p = 3 ∨ p = 4 ∨ p = 5 ∨ p = 6 ∨ p = 7 ∨ p = 8 ∨ p = 9 ∨ p = 10 := by omega
 rcases this with rfl | rfl | rfl | rfl | rfl | rfl | rfl | rfl | rfl | rfl | rfl <;> rfl
theorem and_i64 (a b : Nat) (ha : a < 9223372036854775808) (hb : b < 9223372036854775808) : bitV .and .i64 (a : Int) (b : Int) = ((a &&& b : Nat) : Int) := by
 have hlt : a &&& b < 9223372036854775808 := Nat.lt_of_le_of_lt Nat.and_le_left ha
 have e : (BitVec.ofInt IntKind.i64.bits (a : Int) &&& BitVec.ofInt IntKind.i64.bits (b : Int)).toNat = a &&& b := by
  rw [ofInt_nat, ofInt_nat, BitVec.toNat_and, BitVec.toNat_ofNat, BitVec.toNat_ofNat]
  show (a % 18446744073709551616) &&& (b % 18446744073709551616) = _
  rw [Nat.mod_eq_of_lt (by omega), Nat.mod_eq_of_lt (by omega)]
 simp only [bitV, e]
 exact wrap_fits ((fits_i64 _).2 ⟨by omega, by omega⟩)
theorem bit_i64 (m k : Nat) (hm : m < 9223372036854775808) (hk : k < 64) : bitV .and .i64 ((m : Int).fdiv (2 ^ min k 64)) 1 = 1 ↔ m.testBit k = true := by
 rw [Nat.min_eq_left (by omega), fdiv_nat, show (1 : Int) = ((1 : Nat) : Int) from rfl, and_i64 _ _ (Nat.lt_of_le_of_lt (Nat.div_le_self _ _) hm) (by omega), Nat.testBit_eq_decide_div_mod_eq, decide_eq_true_iff, Nat.and_one_is_mod]
 generalize m / 2 ^ k = q
 omega
def bitsK (p k : Nat) : List (List Int) := (List.range (k - 1)).map fun m => bitsL (m + 1) p
theorem bitsK_succ (p k : Nat) (h : 0 < k) : bitsK p (k + 1) = bitsK p k ++ [bitsL k p] := by
 unfold bitsK
 rw [show k + 1 - 1 = (k - 1) + 1 by omega, List.range_succ, List.map_append]
 rw [show [k - 1].map (fun m => bitsL (m + 1) p) = [bitsL (k - 1 + 1) p] from rfl, show k - 1 + 1 = k by omega]
set_option maxHeartbeats 16000000 in
theorem sets_c (p : Nat) (hp1 : 1 ≤ p) (hp : p ≤ 10) : ACalls Tryz.prog 46 [.one (.int .i64 p)] (.one (.list (wordsD (setsY p)))) [] := by
 have hpow : 2 ^ p ≤ 1024 := Nat.le_trans (Nat.pow_le_pow_right (by omega) hp) (by decide)
 have hpow1 : 2 ≤ 2 ^ p := by have := Nat.pow_le_pow_right (n := 2) (by omega) hp1; omega
 have hshl := shl_i64 p hp
 have hsl : (setsL p).length = 2 ^ p - 1 := by simp [setsL]
 have hsort := SortLists_c (setsL p) (setsY p) 70 cfQ ltLL ltLL_swo cfQ_lt (setsY_perm _) (setsY_pw _) (by intro e; rw [e] at hsl; simp at hsl; omega) (by omega)
  (fun a b ha hb => setsCmp_c a b (by have := (setsY_el ((setsY_perm _).mem_iff.2 ha)).1; omega) (by have := (setsY_el ((setsY_perm _).mem_iff.2 hb)).1; omega))
 (refine ACalls.of_body Ty_ok mixed Tryz.func46 rfl (by kernel_rfl) Tryz.ntmps46 (by simp) (congrArg Array.toList Tryz.results46) ?_)
 simp only [slotsOf]
 (repeat' (first | (with_reducible first | exact True.intro | refine And.intro ?_ ?_ | refine awp_block ?_ | ((first | refine awp_seq1 7 [13, 14] ?_ | refine awp_seq2 7 [13, 14] ?_ | refine awp_seq3 7 [13, 14] ?_ | refine awp_seq4 7 [13, 14] ?_ | refine awp_seq 7 [13, 14] ?_); intro K hK)) | ((with_reducible first | refine awp_reg ?_ | refine awp_exit ?_ | refine awp_skip ?_ | refine likeK_i ?_); simp only [go_sem]) | (with_reducible refine awp_ret ?_; simp only [retF, retM, retL, resV, resW, retO, resAV, AV.bor, D.bor, D.bor1, D.bor0, AV.flatOwn, D.flatOwn, D.flat, AV.tagged, D.tagged, AObj.plain, go_sem]) | ((with_reducible refine awp_cond' ?_ ?_ (fun hb => ?_) (fun hb => ?_)); (simp only [go_sem]); (simp only [go_sem]); all_goals (simp only [go_sem] at hb; try simp only [bls] at hb)) | ((iterate 6 try ((fail_if_success with_reducible refine hK _ ?_ ?_ ?_); clear hK K)); with_reducible refine hK _ ?_ ?_ ?_; rotate_left; (focus (simp only [go_sem]; exact rfl)); clear hK K) | (with_reducible refine gsplit_i (fun hg0 => ?_) (fun hg0 => ?_) <;> first | (with_reducible first | exact absurd hg0 Bool.false_ne_true | exact absurd hg0.symm Bool.false_ne_true) | (simp only [hg0, go_sem])) | (with_reducible refine nilK_i ?_; intro bnil hnil; try simp only []) | (omega; done) | (intro hv; (try simp only [bls] at hv); (try simp only [bls]); omega) | (intro hg; (simp only [hg, Bool.true_and, true_and, implies_true]; try (intro hg2; simp only [hg2, Bool.not_false, Bool.not_true])); done)))
 refine awp_loop _ (by simp only [go_sem]; rfl) Nat (fun b => 1 ≤ b ∧ b ≤ 2 ^ p) (fun b => [(3, .one (.own 1)), (4, .one (.int .i64 b))]) (fun b _ => [.row 27 1 [], .row 27 1 (wordsD (bitsK p b))]) (fun b => 2 ^ p - b) 1 ⟨by omega, by omega⟩ ?_ ?_
 ·have e0 : wordsD (bitsK p 1) = [] := rfl
  rw [e0]
  (simp only [SubF, go_sem]; (try simp only [go_sem]); repeat' (first | exact True.intro | with_reducible refine And.intro ?_ ?_ | rfl | omega))
 rintro b ⟨hb1, hb2⟩ L hL
 have hbl : (bitsK p b).length = b - 1 := by simp [bitsK]
 by_cases hlt : b < 2 ^ p
 ·(simp only [go_sem] at hL ⊢)
  (repeat' (first | (with_reducible first | exact True.intro | refine And.intro ?_ ?_ | refine awp_block ?_ | ((first | refine awp_seq1 7 [13, 14] ?_ | refine awp_seq2 7 [13, 14] ?_ | refine awp_seq3 7 [13, 14] ?_ | refine awp_seq4 7 [13, 14] ?_ | refine awp_seq 7 [13, 14] ?_); intro K hK)) | ((with_reducible first | refine awp_reg ?_ | refine awp_exit ?_ | refine awp_skip ?_ | refine likeK_i ?_); simp only [hshl, go_sem]) | (with_reducible refine awp_ret ?_; simp only [retF, retM, retL, resV, resW, retO, resAV, AV.bor, D.bor, D.bor1, D.bor0, AV.flatOwn, D.flatOwn, D.flat, AV.tagged, D.tagged, AObj.plain, hshl, go_sem]) | ((with_reducible refine awp_cond' ?_ ?_ (fun hb => ?_) (fun hb => ?_)); (simp only [hshl, go_sem]); (simp only [hshl, go_sem]); all_goals (simp only [hshl, go_sem] at hb; try simp only [bls] at hb)) | ((iterate 6 try ((fail_if_success with_reducible refine hK _ ?_ ?_ ?_); clear hK K)); with_reducible refine hK _ ?_ ?_ ?_; rotate_left; (focus (simp only [hshl, go_sem]; exact rfl)); clear hK K) | (with_reducible refine gsplit_i (fun hg0 => ?_) (fun hg0 => ?_) <;> first | (with_reducible first | exact absurd hg0 Bool.false_ne_true | exact absurd hg0.symm Bool.false_ne_true) | (simp only [hg0, hshl, go_sem])) | (with_reducible refine nilK_i ?_; intro bnil hnil; try simp only []) | (omega; done) | (intro hv; (try simp only [bls] at hv); (try simp only [bls]); omega) | (intro hg; (simp only [hg, Bool.true_and, true_and, implies_true]; try (intro hg2; simp only [hg2, Bool.not_false, Bool.not_true])); done)))
  all_goals first | omega | skip
  have hO := hL
  clear hL
  refine awp_loop _ (by simp only [go_sem]; rfl) Nat (fun j => j ≤ p) (fun j => [(5, .one (.own 2)), (14, .one (.int .i64 j))]) (fun j _ => [.row 27 1 [], .row 27 1 (wordsD (bitsK p b)), .row 3 1 (ints (bitsL b j))]) (fun j => p - j) 0 (by omega) ?_ ?_
  ·have e0 : ints (bitsL b 0) = [] := rfl
   rw [e0]
   (simp only [SubF, go_sem]; (try simp only [go_sem]); repeat' (first | exact True.intro | with_reducible refine And.intro ?_ ?_ | rfl | omega))
  rintro j hj L hL
  have hlen := bitsL_length b j
  (simp only [go_sem] at hL ⊢)
  (repeat' (first | (with_reducible first | exact True.intro | refine And.intro ?_ ?_ | refine awp_block ?_ | ((first | refine awp_seq1 7 [13, 14] ?_ | refine awp_seq2 7 [13, 14] ?_ | refine awp_seq3 7 [13, 14] ?_ | refine awp_seq4 7 [13, 14] ?_ | refine awp_seq 7 [13, 14] ?_); intro K hK)) | ((with_reducible first | refine awp_reg ?_ | refine awp_exit ?_ | refine awp_skip ?_ | refine likeK_i ?_); simp only [go_sem]) | (with_reducible refine awp_ret ?_; simp only [retF, retM, retL, resV, resW, retO, resAV, AV.bor, D.bor, D.bor1, D.bor0, AV.flatOwn, D.flatOwn, D.flat, AV.tagged, D.tagged, AObj.plain, go_sem]) | ((with_reducible refine awp_cond' ?_ ?_ (fun hb => ?_) (fun hb => ?_)); (simp only [go_sem]); (simp only [go_sem]); all_goals (simp only [go_sem] at hb; try simp only [bls] at hb)) | ((iterate 6 try ((fail_if_success with_reducible refine hK _ ?_ ?_ ?_); clear hK K)); with_reducible refine hK _ ?_ ?_ ?_; rotate_left; (focus (simp only [go_sem]; exact rfl)); clear hK K) | (with_reducible refine gsplit_i (fun hg0 => ?_) (fun hg0 => ?_) <;> first | (with_reducible first | exact absurd hg0 Bool.false_ne_true | exact absurd hg0.symm Bool.false_ne_true) | (simp only [hg0, go_sem])) | (with_reducible refine nilK_i ?_; intro bnil hnil; try simp only []) | (omega; done) | (intro hv; (try simp only [bls] at hv); (try simp only [bls]); omega) | (intro hg; (simp only [hg, Bool.true_and, true_and, implies_true]; try (intro hg2; simp only [hg2, Bool.not_false, Bool.not_true])); done)))
  all_goals first | omega | skip
  ·rw [bit_i64 b j (by omega) (by omega)] at hb
   have e := bitsL_succ b j
   rw [if_pos hb] at e
   simp only [ints_one, ints_append, ← e]
   exact hL _ (j + 1) (by omega) (by (simp only [SubF, go_sem]; (try simp only [go_sem]); repeat' (first | exact True.intro | with_reducible refine And.intro ?_ ?_ | rfl | omega))) (by omega)
  ·rw [bit_i64 b j (by omega) (by omega)] at hb
   have e := bitsL_succ b j
   rw [if_neg hb, List.append_nil] at e
   simp only [← e]
   exact hL _ (j + 1) (by omega) (by (simp only [SubF, go_sem]; (try simp only [go_sem]); repeat' (first | exact True.intro | with_reducible refine And.intro ?_ ?_ | rfl | omega))) (by omega)
  ·have hjp : j = p := by omega
   subst hjp
   have hs := bitsK_succ j b (by omega)
   rw [words_one, words_append, ← hs]
   exact hO _ (b + 1) ⟨by omega, by omega⟩ (by (simp only [SubF, go_sem]; (try simp only [go_sem]); repeat' (first | exact True.intro | with_reducible refine And.intro ?_ ?_ | rfl | omega))) (by omega)
 ·have hbp : b = 2 ^ p := by omega
  subst hbp
  rw [show bitsK p (2 ^ p) = setsL p from rfl]
  (simp only [go_sem] at hL ⊢)
  (repeat' (first | (with_reducible first | exact True.intro | refine And.intro ?_ ?_ | refine awp_block ?_ | ((first | refine awp_seq1 7 [13, 14] ?_ | refine awp_seq2 7 [13, 14] ?_ | refine awp_seq3 7 [13, 14] ?_ | refine awp_seq4 7 [13, 14] ?_ | refine awp_seq 7 [13, 14] ?_); intro K hK)) | ((with_reducible first | refine awp_reg ?_ | refine awp_exit ?_ | refine awp_skip ?_ | refine likeK_i ?_); simp only [hshl, go_sem]) | (with_reducible refine awp_ret ?_; simp only [retF, retM, retL, resV, resW, retO, resAV, AV.bor, D.bor, D.bor1, D.bor0, AV.flatOwn, D.flatOwn, D.flat, AV.tagged, D.tagged, AObj.plain, hshl, go_sem]) | ((with_reducible refine awp_cond' ?_ ?_ (fun hb => ?_) (fun hb => ?_)); (simp only [hshl, go_sem]); (simp only [hshl, go_sem]); all_goals (simp only [hshl, go_sem] at hb; try simp only [bls] at hb)) | ((iterate 6 try ((fail_if_success with_reducible refine hK _ ?_ ?_ ?_); clear hK K)); with_reducible refine hK _ ?_ ?_ ?_; rotate_left; (focus (simp only [hshl, go_sem]; exact rfl)); clear hK K) | (with_reducible refine gsplit_i (fun hg0 => ?_) (fun hg0 => ?_) <;> first | (with_reducible first | exact absurd hg0 Bool.false_ne_true | exact absurd hg0.symm Bool.false_ne_true) | (simp only [hg0, hshl, go_sem])) | (with_reducible refine nilK_i ?_; intro bnil hnil; try simp only []) | (omega; done) | (intro hv; (try simp only [bls] at hv); (try simp only [bls]); omega) | (intro hg; (simp only [hg, Bool.true_and, true_and, implies_true]; try (intro hg2; simp only [hg2, Bool.not_false, Bool.not_true])); done)))
  all_goals first | omega | skip
  (refine MCallAt_i [] [1] (hsort) ?_ ?_; (focus (simp only [mside, handOk, go_sem]; (first | done | exact (by decide) | exact ⟨by decide, fun t ht => ht.elim⟩ | (refine ⟨by decide, ?_⟩; simp; done)))); simp only [go_sem])
  (repeat' (first | (with_reducible first | exact True.intro | refine And.intro ?_ ?_ | refine awp_block ?_ | ((first | refine awp_seq1 7 [13, 14] ?_ | refine awp_seq2 7 [13, 14] ?_ | refine awp_seq3 7 [13, 14] ?_ | refine awp_seq4 7 [13, 14] ?_ | refine awp_seq 7 [13, 14] ?_); intro K hK)) | ((with_reducible first | refine awp_reg ?_ | refine awp_exit ?_ | refine awp_skip ?_ | refine likeK_i ?_); simp only [go_sem]) | (with_reducible refine awp_ret ?_; simp only [retF, retM, retL, resV, resW, retO, resAV, AV.bor, D.bor, D.bor1, D.bor0, AV.flatOwn, D.flatOwn, D.flat, AV.tagged, D.tagged, AObj.plain, go_sem]) | ((with_reducible refine awp_cond' ?_ ?_ (fun hb => ?_) (fun hb => ?_)); (simp only [go_sem]); (simp only [go_sem]); all_goals (simp only [go_sem] at hb; try simp only [bls] at hb)) | ((iterate 6 try ((fail_if_success with_reducible refine hK _ ?_ ?_ ?_); clear hK K)); with_reducible refine hK _ ?_ ?_ ?_; rotate_left; (focus (simp only [go_sem]; exact rfl)); clear hK K) | (with_reducible refine gsplit_i (fun hg0 => ?_) (fun hg0 => ?_) <;> first | (with_reducible first | exact absurd hg0 Bool.false_ne_true | exact absurd hg0.symm Bool.false_ne_true) | (simp only [hg0, go_sem])) | (with_reducible refine nilK_i ?_; intro bnil hnil; try simp only []) | (omega; done) | (intro hv; (try simp only [bls] at hv); (try simp only [bls]); omega) | (intro hg; (simp only [hg, Bool.true_and, true_and, implies_true]; try (intro hg2; simp only [hg2, Bool.not_false, Bool.not_true])); done)))
  all_goals first | omega | skip
theorem minimal1_c (x s : List Int) (hx : x.length ≤ 1000000) (hn : s.length ≤ 1000000) : ACalls Tryz.prog 47 [.one (.list (ints x)), .one (.ref [.list (ints s)])] (.one (.bool (wiB x s))) [] := by
 have h1 := within_c x s hx hn
 (refine ACalls.of_body Ty_ok mixed Tryz.func47 rfl (by kernel_rfl) Tryz.ntmps47 (by simp) (congrArg Array.toList Tryz.results47) ?_)
 simp only [slotsOf]
 (repeat' (first | (with_reducible first | exact True.intro | refine And.intro ?_ ?_ | refine awp_block ?_ | ((first | refine awp_seq1 4 [] ?_ | refine awp_seq2 4 [] ?_ | refine awp_seq3 4 [] ?_ | refine awp_seq4 4 [] ?_ | refine awp_seq 4 [] ?_); intro K hK)) | ((with_reducible first | refine awp_reg ?_ | refine awp_exit ?_ | refine awp_skip ?_ | refine likeK_i ?_); simp only [go_sem]) | (with_reducible refine awp_ret ?_; simp only [retF, retM, retL, resV, resW, retO, resAV, AV.bor, D.bor, D.bor1, D.bor0, AV.flatOwn, D.flatOwn, D.flat, AV.tagged, D.tagged, AObj.plain, go_sem]) | ((with_reducible refine awp_cond' ?_ ?_ (fun hb => ?_) (fun hb => ?_)); (simp only [go_sem]); (simp only [go_sem]); all_goals (simp only [go_sem] at hb; try simp only [bls] at hb)) | ((iterate 6 try ((fail_if_success with_reducible refine hK _ ?_ ?_ ?_); clear hK K)); with_reducible refine hK _ ?_ ?_ ?_; rotate_left; (focus (simp only [go_sem]; exact rfl)); clear hK K) | ((first | (with_reducible first | refine cA h1 ?_ | refine cD h1 ?_ | refine cO h1 ?_ | refine cR h1 ?_ | refine cG (fun hg => h1) ?_ | refine cH (fun hg => h1) ?_ | refine cM (fun hg => h1) ?_) | (guard_target = CallAt _ _ _ _ _ _ _ _ _ _; refine cA h1 ?_) | (guard_target = DCallAt _ _ _ _ _ _ _ _; refine cD h1 ?_) | (guard_target = GCallAt _ _ _ _ _ _ _ _ _ _ _; refine cG (fun hg => h1) ?_)); simp only [go_sem]) | (with_reducible refine gsplit_i (fun hg0 => ?_) (fun hg0 => ?_) <;> first | (with_reducible first | exact absurd hg0 Bool.false_ne_true | exact absurd hg0.symm Bool.false_ne_true) | (simp only [hg0, go_sem])) | (with_reducible refine nilK_i ?_; intro bnil hnil; try simp only []) | (omega; done) | (intro hv; (try simp only [bls] at hv); (try simp only [bls]); omega) | (intro hg; (simp only [hg, Bool.true_and, true_and, implies_true]; try (intro hg2; simp only [hg2, Bool.not_false, Bool.not_true])); done)))
set_option maxHeartbeats 16000000 in
theorem lMinimal_c (n : Net) (k : Int) (hf : n.Fits) (hk : k = 1 ∨ k = 2) (hp1 : 1 ≤ n.init.length) (hp10 : n.init.length ≤ 10) : ACalls Tryz.prog 13 [.agg n.d, .one (.int .i64 k)] (.one (.list (wordsD (minL k n)))) [] := by
 have hsets := sets_c n.init.length hp1 hp10
 have hpow : 2 ^ n.init.length ≤ 1024 := Nat.le_trans (Nat.pow_le_pow_right (by omega) hp10) (by decide)
 have hyl := setsY_length n.init.length
 (refine ACalls.of_body Ty_ok mixed Tryz.func13 rfl (by kernel_rfl) Tryz.ntmps13 (by simp) (congrArg Array.toList Tryz.results13) ?_)
 simp only [slotsOf, Net.d]
 (repeat' (first | (with_reducible first | exact True.intro | refine And.intro ?_ ?_ | refine awp_block ?_ | ((first | refine awp_seq1 8 [12, 11, 13] ?_ | refine awp_seq2 8 [12, 11, 13] ?_ | refine awp_seq3 8 [12, 11, 13] ?_ | refine awp_seq4 8 [12, 11, 13] ?_ | refine awp_seq 8 [12, 11, 13] ?_); intro K hK)) | ((with_reducible first | refine awp_reg ?_ | refine awp_exit ?_ | refine awp_skip ?_ | refine likeK_i ?_); simp only [go_sem]) | (with_reducible refine awp_ret ?_; simp only [retF, retM, retL, resV, resW, retO, resAV, AV.bor, D.bor, D.bor1, D.bor0, AV.flatOwn, D.flatOwn, D.flat, AV.tagged, D.tagged, AObj.plain, go_sem]) | ((with_reducible refine awp_cond' ?_ ?_ (fun hb => ?_) (fun hb => ?_)); (simp only [go_sem]); (simp only [go_sem]); all_goals (simp only [go_sem] at hb; try simp only [bls] at hb)) | ((iterate 6 try ((fail_if_success with_reducible refine hK _ ?_ ?_ ?_); clear hK K)); with_reducible refine hK _ ?_ ?_ ?_; rotate_left; (focus (simp only [go_sem]; exact rfl)); clear hK K) | ((first | (with_reducible first | refine cA hsets ?_ | refine cD hsets ?_ | refine cO hsets ?_ | refine cR hsets ?_ | refine cG (fun hg => hsets) ?_ | refine cH (fun hg => hsets) ?_ | refine cM (fun hg => hsets) ?_) | (guard_target = CallAt _ _ _ _ _ _ _ _ _ _; refine cA hsets ?_) | (guard_target = DCallAt _ _ _ _ _ _ _ _; refine cD hsets ?_) | (guard_target = GCallAt _ _ _ _ _ _ _ _ _ _ _; refine cG (fun hg => hsets) ?_)); simp only [go_sem]) | (with_reducible refine gsplit_i (fun hg0 => ?_) (fun hg0 => ?_) <;> first | (with_reducible first | exact absurd hg0 Bool.false_ne_true | exact absurd hg0.symm Bool.false_ne_true) | (simp only [hg0, go_sem])) | (with_reducible refine nilK_i ?_; intro bnil hnil; try simp only []) | (omega; done) | (intro hv; (try simp only [bls] at hv); (try simp only [bls]); omega) | (intro hg; (simp only [hg, Bool.true_and, true_and, implies_true]; try (intro hg2; simp only [hg2, Bool.not_false, Bool.not_true])); done)))
 all_goals first | omega | skip
 refine awp_loop _ (by simp only [go_sem]; rfl) (Nat × List (List Int)) (fun u => u.1 ≤ (setsY n.init.length).length ∧ u.2.length ≤ u.1 ∧ (∀ x ∈ u.2, x.length ≤ 10 ∧ Incr x) ∧ minL k n = pickL k n.trs ((setsY n.init.length).drop u.1) u.2) (fun u => [(5, .one (.own 2)), (13, .one (.int .i64 u.1))]) (fun u _ => [.var 30 [.list (ints n.init), .list (trsD n.trs)], .row 27 1 [], .row 27 1 (wordsD u.2)]) (fun u => (setsY n.init.length).length - u.1) (0, []) ⟨Nat.zero_le _, Nat.le_refl _, fun x hx => by simp at hx, rfl⟩ ?_ ?_
 ·(simp only [SubF, go_sem]; (try simp only [go_sem]); repeat' (first | exact True.intro | with_reducible refine And.intro ?_ ?_ | rfl | omega))
 rintro ⟨i, out⟩ ⟨hi, hol, hox, hres⟩ L hL
 simp only at hi hol hox hres
 have hq : ((i : Nat) : Int).toNat = i := by omega
 by_cases hil : i < (setsY n.init.length).length
 ·have hw := words_at (l := setsY n.init.length) hil [.nil]
  have hel := setsY_el (getD_mem (setsY n.init.length) i [] hil)
  have hst := drop_getD (setsY n.init.length) i [] hil
  rw [hst, pickL] at hres
  generalize (setsY n.init.length).getD i [] = s at hw hel hres
  have hcf := ContainsFuncWords_c out 47 [.ref [.list (ints s)]] (fun x => wiB x s) (by omega) (capsOk_ref1 _) (fun x hx => minimal1_c x s (by have := hox x hx; omega) (by omega))
  have hany : out.any (fun x => inB x s) = out.any (fun x => wiB x s) := by
   rw [Bool.eq_iff_iff, List.any_eq_true, List.any_eq_true]
   constructor
   ·rintro ⟨x, hx, h⟩
    exact ⟨x, hx, by rw [← inB_wi (hox x hx).2 hel.2.1]; exact h⟩
   ·rintro ⟨x, hx, h⟩
    exact ⟨x, hx, by rw [inB_wi (hox x hx).2 hel.2.1]; exact h⟩
  rw [hany] at hres
  have his := is_c n s k hf (by omega) hk
  simp only [Net.d] at his
  (simp only [go_sem] at hL ⊢)
  (repeat' (first | (with_reducible first | exact True.intro | refine And.intro ?_ ?_ | refine awp_block ?_ | ((first | refine awp_seq1 8 [12, 11, 13] ?_ | refine awp_seq2 8 [12, 11, 13] ?_ | refine awp_seq3 8 [12, 11, 13] ?_ | refine awp_seq4 8 [12, 11, 13] ?_ | refine awp_seq 8 [12, 11, 13] ?_); intro K hK)) | ((with_reducible first | refine awp_reg ?_ | refine awp_exit ?_ | refine awp_skip ?_ | refine likeK_i ?_); simp only [hq, hw, go_sem]) | (with_reducible refine awp_ret ?_; simp only [retF, retM, retL, resV, resW, retO, resAV, AV.bor, D.bor, D.bor1, D.bor0, AV.flatOwn, D.flatOwn, D.flat, AV.tagged, D.tagged, AObj.plain, hq, hw, go_sem]) | ((with_reducible refine awp_cond' ?_ ?_ (fun hb => ?_) (fun hb => ?_)); (simp only [hq, hw, go_sem]); (simp only [hq, hw, go_sem]); all_goals (simp only [hq, hw, go_sem] at hb; try simp only [bls] at hb)) | ((iterate 6 try ((fail_if_success with_reducible refine hK _ ?_ ?_ ?_); clear hK K)); with_reducible refine hK _ ?_ ?_ ?_; rotate_left; (focus (simp only [hq, hw, go_sem]; exact rfl)); clear hK K) | ((first | (with_reducible first | refine cA hcf ?_ | refine cA his ?_ | refine cD hcf ?_ | refine cD his ?_ | refine cO hcf ?_ | refine cO his ?_ | refine cR hcf ?_ | refine cR his ?_ | refine cG (fun hg => hcf) ?_ | refine cG (fun hg => his) ?_ | refine cH (fun hg => hcf) ?_ | refine cH (fun hg => his) ?_ | refine cM (fun hg => hcf) ?_ | refine cM (fun hg => his) ?_) | (guard_target = CallAt _ _ _ _ _ _ _ _ _ _; first | refine cA hcf ?_ | refine cA his ?_) | (guard_target = DCallAt _ _ _ _ _ _ _ _; first | refine cD hcf ?_ | refine cD his ?_) | (guard_target = GCallAt _ _ _ _ _ _ _ _ _ _ _; first | refine cG (fun hg => hcf) ?_ | refine cG (fun hg => his) ?_)); simp only [hq, hw, go_sem]) | (with_reducible refine gsplit_i (fun hg0 => ?_) (fun hg0 => ?_) <;> first | (with_reducible first | exact absurd hg0 Bool.false_ne_true | exact absurd hg0.symm Bool.false_ne_true) | (simp only [hg0, hq, hw, go_sem])) | (with_reducible refine nilK_i ?_; intro bnil hnil; try simp only []) | (omega; done) | (intro hv; (try simp only [bls] at hv); (try simp only [bls]); omega) | (intro hg; (simp only [hg, Bool.true_and, true_and, implies_true]; try (intro hg2; simp only [hg2, Bool.not_false, Bool.not_true])); done)))
  all_goals first | omega | skip
  ·have hc : (!out.any (fun x => wiB x s) && isL k n.trs s) = true := by
    rw [hb.1, hb.2]; rfl
   rw [if_pos hc] at hres
   rw [words_one, words_append]
   exact hL _ (i + 1, out ++ [s]) ⟨by simp only; omega, by simp only [List.length_append, List.length_singleton]; omega, fun x hx => by
    simp only at hx
    rcases List.mem_append.1 hx with hx | hx
    ·exact hox x hx
    ·simp at hx; subst hx; exact ⟨by omega, hel.2.1⟩, hres⟩ (by (simp only [SubF, go_sem]; (try simp only [go_sem]); repeat' (first | exact True.intro | with_reducible refine And.intro ?_ ?_ | rfl | omega))) (by simp only; omega)
  ·have hc : ¬ (!out.any (fun x => wiB x s) && isL k n.trs s) = true := by
    intro hc
    simp only [Bool.and_eq_true, Bool.not_eq_true'] at hc
    rcases hb with hb | hb
    ·rw [hc.2] at hb; cases hb
    ·rw [hc.1] at hb; cases hb
   rw [if_neg hc] at hres
   exact hL _ (i + 1, out) ⟨by simp only; omega, by simp only; omega, hox, hres⟩ (by (simp only [SubF, go_sem]; (try simp only [go_sem]); repeat' (first | exact True.intro | with_reducible refine And.intro ?_ ?_ | rfl | omega))) (by simp only; omega)
 ·(simp only [go_sem] at hL ⊢)
  (repeat' (first | (with_reducible first | exact True.intro | refine And.intro ?_ ?_ | refine awp_block ?_ | ((first | refine awp_seq1 8 [12, 11, 13] ?_ | refine awp_seq2 8 [12, 11, 13] ?_ | refine awp_seq3 8 [12, 11, 13] ?_ | refine awp_seq4 8 [12, 11, 13] ?_ | refine awp_seq 8 [12, 11, 13] ?_); intro K hK)) | ((with_reducible first | refine awp_reg ?_ | refine awp_exit ?_ | refine awp_skip ?_ | refine likeK_i ?_); simp only [go_sem]) | (with_reducible refine awp_ret ?_; simp only [retF, retM, retL, resV, resW, retO, resAV, AV.bor, D.bor, D.bor1, D.bor0, AV.flatOwn, D.flatOwn, D.flat, AV.tagged, D.tagged, AObj.plain, go_sem]) | ((with_reducible refine awp_cond' ?_ ?_ (fun hb => ?_) (fun hb => ?_)); (simp only [go_sem]); (simp only [go_sem]); all_goals (simp only [go_sem] at hb; try simp only [bls] at hb)) | ((iterate 6 try ((fail_if_success with_reducible refine hK _ ?_ ?_ ?_); clear hK K)); with_reducible refine hK _ ?_ ?_ ?_; rotate_left; (focus (simp only [go_sem]; exact rfl)); clear hK K) | (with_reducible refine gsplit_i (fun hg0 => ?_) (fun hg0 => ?_) <;> first | (with_reducible first | exact absurd hg0 Bool.false_ne_true | exact absurd hg0.symm Bool.false_ne_true) | (simp only [hg0, go_sem])) | (with_reducible refine nilK_i ?_; intro bnil hnil; try simp only []) | (omega; done) | (intro hv; (try simp only [bls] at hv); (try simp only [bls]); omega) | (intro hg; (simp only [hg, Bool.true_and, true_and, implies_true]; try (intro hg2; simp only [hg2, Bool.not_false, Bool.not_true])); done)))
  all_goals first | omega | skip
  rw [hres, drop_end _ i (by omega)]; rfl
theorem flatG_take (k : Int) (ts : List Tr) (s : List Int) (l : List (List Int)) (i : Nat) (hi : i < l.length) : flatG k ts s (l.take (i + 1)) = flatG k ts s (l.take i) ++ if wiB (l.getD i []) s && isL k ts (l.getD i []) then l.getD i [] else [] := by
 have app : ∀ a b : List (List Int), flatG k ts s (a ++ b) = flatG k ts s a ++ flatG k ts s b := by
  intro a b
  induction a with
  | nil => rfl
  | cons x a ih => simp only [List.cons_append, flatG, ih, List.append_assoc]
 rw [take_succ_getD l i [] hi, app]
 simp only [flatG, List.append_nil]
set_option maxHeartbeats 16000000 in
theorem lGreatest_c (n : Net) (set : List Int) (k : Int) (hf : n.Fits) (hk : k = 1 ∨ k = 2) (hp1 : 1 ≤ n.init.length) (hp10 : n.init.length ≤ 10) (hs : Incr set) (hr : ∀ x ∈ set, 0 ≤ x ∧ x < n.init.length) (hsl : set.length ≤ 1000000) : ACalls Tryz.prog 23 [.agg n.d, .one (.list (ints set)), .one (.int .i64 k)] (.one (.list (ints (redL k n.trs set)))) [] := by
 have hsets := sets_c n.init.length hp1 hp10
 have hpow : 2 ^ n.init.length ≤ 1024 := Nat.le_trans (Nat.pow_le_pow_right (by omega) hp10) (by decide)
 have hyl := setsY_length n.init.length
 have hge := greatest_eq (k := k) (ts := n.trs) hs hr
 (refine ACalls.of_body Ty_ok mixed Tryz.func23 rfl (by kernel_rfl) Tryz.ntmps23 (by simp) (congrArg Array.toList Tryz.results23) ?_)
 simp only [slotsOf, Net.d]
 (repeat' (first | (with_reducible first | exact True.intro | refine And.intro ?_ ?_ | refine awp_block ?_ | ((first | refine awp_seq1 10 [14, 13, 15] ?_ | refine awp_seq2 10 [14, 13, 15] ?_ | refine awp_seq3 10 [14, 13, 15] ?_ | refine awp_seq4 10 [14, 13, 15] ?_ | refine awp_seq 10 [14, 13, 15] ?_); intro K hK)) | ((with_reducible first | refine awp_reg ?_ | refine awp_exit ?_ | refine awp_skip ?_ | refine likeK_i ?_); simp only [go_sem]) | (with_reducible refine awp_ret ?_; simp only [retF, retM, retL, resV, resW, retO, resAV, AV.bor, D.bor, D.bor1, D.bor0, AV.flatOwn, D.flatOwn, D.flat, AV.tagged, D.tagged, AObj.plain, go_sem]) | ((with_reducible refine awp_cond' ?_ ?_ (fun hb => ?_) (fun hb => ?_)); (simp only [go_sem]); (simp only [go_sem]); all_goals (simp only [go_sem] at hb; try simp only [bls] at hb)) | ((iterate 6 try ((fail_if_success with_reducible refine hK _ ?_ ?_ ?_); clear hK K)); with_reducible refine hK _ ?_ ?_ ?_; rotate_left; (focus (simp only [go_sem]; exact rfl)); clear hK K) | ((first | (with_reducible first | refine cA hsets ?_ | refine cD hsets ?_ | refine cO hsets ?_ | refine cR hsets ?_ | refine cG (fun hg => hsets) ?_ | refine cH (fun hg => hsets) ?_ | refine cM (fun hg => hsets) ?_) | (guard_target = CallAt _ _ _ _ _ _ _ _ _ _; refine cA hsets ?_) | (guard_target = DCallAt _ _ _ _ _ _ _ _; refine cD hsets ?_) | (guard_target = GCallAt _ _ _ _ _ _ _ _ _ _ _; refine cG (fun hg => hsets) ?_)); simp only [go_sem]) | (with_reducible refine gsplit_i (fun hg0 => ?_) (fun hg0 => ?_) <;> first | (with_reducible first | exact absurd hg0 Bool.false_ne_true | exact absurd hg0.symm Bool.false_ne_true) | (simp only [hg0, go_sem])) | (with_reducible refine nilK_i ?_; intro bnil hnil; try simp only []) | (omega; done) | (intro hv; (try simp only [bls] at hv); (try simp only [bls]); omega) | (intro hg; (simp only [hg, Bool.true_and, true_and, implies_true]; try (intro hg2; simp only [hg2, Bool.not_false, Bool.not_true])); done)))
 all_goals first | omega | skip
 refine awp_loop _ (by simp only [go_sem]; rfl) Nat (fun i => i ≤ (setsY n.init.length).length ∧ (flatG k n.trs set ((setsY n.init.length).take i)).length ≤ 10 * i) (fun i => [(7, .one (.own 2)), (15, .one (.int .i64 i))]) (fun i _ => [.var 30 [.list (ints n.init), .list (trsD n.trs)], .row 3 1 [], .row 3 1 (ints (flatG k n.trs set ((setsY n.init.length).take i)))]) (fun i => (setsY n.init.length).length - i) 0 ⟨Nat.zero_le _, Nat.le_refl _⟩ ?_ ?_
 ·have e0 : ints (flatG k n.trs set ((setsY n.init.length).take 0)) = [] := rfl
  rw [e0]
  (simp only [SubF, go_sem]; (try simp only [go_sem]); repeat' (first | exact True.intro | with_reducible refine And.intro ?_ ?_ | rfl | omega))
 rintro i ⟨hi, hfl⟩ L hL
 have hq : ((i : Nat) : Int).toNat = i := by omega
 by_cases hil : i < (setsY n.init.length).length
 ·have hw := words_at (l := setsY n.init.length) hil [.nil]
  have hel := setsY_el (getD_mem (setsY n.init.length) i [] hil)
  have hst := flatG_take k n.trs set (setsY n.init.length) i hil
  generalize (setsY n.init.length).getD i [] = s at hw hel hst
  have hwi := within_c s set (by omega) hsl
  have his := is_c n s k hf (by omega) hk
  simp only [Net.d] at his
  (simp only [go_sem] at hL ⊢)
  (repeat' (first | (with_reducible first | exact True.intro | refine And.intro ?_ ?_ | refine awp_block ?_ | ((first | refine awp_seq1 10 [14, 13, 15] ?_ | refine awp_seq2 10 [14, 13, 15] ?_ | refine awp_seq3 10 [14, 13, 15] ?_ | refine awp_seq4 10 [14, 13, 15] ?_ | refine awp_seq 10 [14, 13, 15] ?_); intro K hK)) | ((with_reducible first | refine awp_reg ?_ | refine awp_exit ?_ | refine awp_skip ?_ | refine likeK_i ?_); simp only [hq, hw, go_sem]) | (with_reducible refine awp_ret ?_; simp only [retF, retM, retL, resV, resW, retO, resAV, AV.bor, D.bor, D.bor1, D.bor0, AV.flatOwn, D.flatOwn, D.flat, AV.tagged, D.tagged, AObj.plain, hq, hw, go_sem]) | ((with_reducible refine awp_cond' ?_ ?_ (fun hb => ?_) (fun hb => ?_)); (simp only [hq, hw, go_sem]); (simp only [hq, hw, go_sem]); all_goals (simp only [hq, hw, go_sem] at hb; try simp only [bls] at hb)) | ((iterate 6 try ((fail_if_success with_reducible refine hK _ ?_ ?_ ?_); clear hK K)); with_reducible refine hK _ ?_ ?_ ?_; rotate_left; (focus (simp only [hq, hw, go_sem]; exact rfl)); clear hK K) | ((first | (with_reducible first | refine cA hwi ?_ | refine cA his ?_ | refine cD hwi ?_ | refine cD his ?_ | refine cO hwi ?_ | refine cO his ?_ | refine cR hwi ?_ | refine cR his ?_ | refine cG (fun hg => hwi) ?_ | refine cG (fun hg => his) ?_ | refine cH (fun hg => hwi) ?_ | refine cH (fun hg => his) ?_ | refine cM (fun hg => hwi) ?_ | refine cM (fun hg => his) ?_) | (guard_target = CallAt _ _ _ _ _ _ _ _ _ _; first | refine cA hwi ?_ | refine cA his ?_) | (guard_target = DCallAt _ _ _ _ _ _ _ _; first | refine cD hwi ?_ | refine cD his ?_) | (guard_target = GCallAt _ _ _ _ _ _ _ _ _ _ _; first | refine cG (fun hg => hwi) ?_ | refine cG (fun hg => his) ?_)); simp only [hq, hw, go_sem]) | (with_reducible refine gsplit_i (fun hg0 => ?_) (fun hg0 => ?_) <;> first | (with_reducible first | exact absurd hg0 Bool.false_ne_true | exact absurd hg0.symm Bool.false_ne_true) | (simp only [hg0, hq, hw, go_sem])) | (with_reducible refine nilK_i ?_; intro bnil hnil; try simp only []) | (omega; done) | (intro hv; (try simp only [bls] at hv); (try simp only [bls]); omega) | (intro hg; (simp only [hg, Bool.true_and, true_and, implies_true]; try (intro hg2; simp only [hg2, Bool.not_false, Bool.not_true])); done)))
  all_goals first | omega | skip
  ·rw [hb.1, hb.2, show (if (true && true) = true then s else []) = s from rfl] at hst
   rw [ints_append, ← hst]
   exact hL _ (i + 1) ⟨by omega, by rw [hst, List.length_append]; omega⟩ (by (simp only [SubF, go_sem]; (try simp only [go_sem]); repeat' (first | exact True.intro | with_reducible refine And.intro ?_ ?_ | rfl | omega))) (by omega)
  ·have hc : ¬ (wiB s set && isL k n.trs s) = true := by
    rcases hb with hb | hb <;> rw [hb] <;> simp
   rw [if_neg hc, List.append_nil] at hst
   rw [← hst]
   exact hL _ (i + 1) ⟨by omega, by rw [hst]; omega⟩ (by (simp only [SubF, go_sem]; (try simp only [go_sem]); repeat' (first | exact True.intro | with_reducible refine And.intro ?_ ?_ | rfl | omega))) (by omega)
 ·have hil' : i = (setsY n.init.length).length := by omega
  subst hil'
  rw [List.take_length] at *
  have hso := SortInts_c (flatG k n.trs set (setsY n.init.length)) (by omega)
  have hco := CompactInts_c (sortI (flatG k n.trs set (setsY n.init.length))) (by rw [sortI_length]; omega)
  rw [hge] at hco
  (simp only [go_sem] at hL ⊢)
  (repeat' (first | (with_reducible first | exact True.intro | refine And.intro ?_ ?_ | refine awp_block ?_ | ((first | refine awp_seq1 10 [14, 13, 15] ?_ | refine awp_seq2 10 [14, 13, 15] ?_ | refine awp_seq3 10 [14, 13, 15] ?_ | refine awp_seq4 10 [14, 13, 15] ?_ | refine awp_seq 10 [14, 13, 15] ?_); intro K hK)) | ((with_reducible first | refine awp_reg ?_ | refine awp_exit ?_ | refine awp_skip ?_ | refine likeK_i ?_); simp only [go_sem]) | (with_reducible refine awp_ret ?_; simp only [retF, retM, retL, resV, resW, retO, resAV, AV.bor, D.bor, D.bor1, D.bor0, AV.flatOwn, D.flatOwn, D.flat, AV.tagged, D.tagged, AObj.plain, go_sem]) | ((with_reducible refine awp_cond' ?_ ?_ (fun hb => ?_) (fun hb => ?_)); (simp only [go_sem]); (simp only [go_sem]); all_goals (simp only [go_sem] at hb; try simp only [bls] at hb)) | ((iterate 6 try ((fail_if_success with_reducible refine hK _ ?_ ?_ ?_); clear hK K)); with_reducible refine hK _ ?_ ?_ ?_; rotate_left; (focus (simp only [go_sem]; exact rfl)); clear hK K) | (with_reducible refine gsplit_i (fun hg0 => ?_) (fun hg0 => ?_) <;> first | (with_reducible first | exact absurd hg0 Bool.false_ne_true | exact absurd hg0.symm Bool.false_ne_true) | (simp only [hg0, go_sem])) | (with_reducible refine nilK_i ?_; intro bnil hnil; try simp only []) | (omega; done) | (intro hv; (try simp only [bls] at hv); (try simp only [bls]); omega) | (intro hg; (simp only [hg, Bool.true_and, true_and, implies_true]; try (intro hg2; simp only [hg2, Bool.not_false, Bool.not_true])); done)))
  all_goals first | omega | skip
  (refine MCallAt_i [] [2] (hso) ?_ ?_; (focus (simp only [mside, handOk, go_sem]; (first | done | exact (by decide) | exact ⟨by decide, fun t ht => ht.elim⟩ | (refine ⟨by decide, ?_⟩; simp; done)))); simp only [go_sem])
  (repeat' (first | (with_reducible first | exact True.intro | refine And.intro ?_ ?_ | refine awp_block ?_ | ((first | refine awp_seq1 10 [14, 13, 15] ?_ | refine awp_seq2 10 [14, 13, 15] ?_ | refine awp_seq3 10 [14, 13, 15] ?_ | refine awp_seq4 10 [14, 13, 15] ?_ | refine awp_seq 10 [14, 13, 15] ?_); intro K hK)) | ((with_reducible first | refine awp_reg ?_ | refine awp_exit ?_ | refine awp_skip ?_ | refine likeK_i ?_); simp only [go_sem]) | (with_reducible refine awp_ret ?_; simp only [retF, retM, retL, resV, resW, retO, resAV, AV.bor, D.bor, D.bor1, D.bor0, AV.flatOwn, D.flatOwn, D.flat, AV.tagged, D.tagged, AObj.plain, go_sem]) | ((with_reducible refine awp_cond' ?_ ?_ (fun hb => ?_) (fun hb => ?_)); (simp only [go_sem]); (simp only [go_sem]); all_goals (simp only [go_sem] at hb; try simp only [bls] at hb)) | ((iterate 6 try ((fail_if_success with_reducible refine hK _ ?_ ?_ ?_); clear hK K)); with_reducible refine hK _ ?_ ?_ ?_; rotate_left; (focus (simp only [go_sem]; exact rfl)); clear hK K) | (with_reducible refine gsplit_i (fun hg0 => ?_) (fun hg0 => ?_) <;> first | (with_reducible first | exact absurd hg0 Bool.false_ne_true | exact absurd hg0.symm Bool.false_ne_true) | (simp only [hg0, go_sem])) | (with_reducible refine nilK_i ?_; intro bnil hnil; try simp only []) | (omega; done) | (intro hv; (try simp only [bls] at hv); (try simp only [bls]); omega) | (intro hg; (simp only [hg, Bool.true_and, true_and, implies_true]; try (intro hg2; simp only [hg2, Bool.not_false, Bool.not_true])); done)))
  all_goals first | omega | skip
  (refine MCallAt_i [] [2] (hco) ?_ ?_; (focus (simp only [mside, handOk, go_sem]; (first | done | exact (by decide) | exact ⟨by decide, fun t ht => ht.elim⟩ | (refine ⟨by decide, ?_⟩; simp; done)))); simp only [go_sem])
  (repeat' (first | (with_reducible first | exact True.intro | refine And.intro ?_ ?_ | refine awp_block ?_ | ((first | refine awp_seq1 10 [14, 13, 15] ?_ | refine awp_seq2 10 [14, 13, 15] ?_ | refine awp_seq3 10 [14, 13, 15] ?_ | refine awp_seq4 10 [14, 13, 15] ?_ | refine awp_seq 10 [14, 13, 15] ?_); intro K hK)) | ((with_reducible first | refine awp_reg ?_ | refine awp_exit ?_ | refine awp_skip ?_ | refine likeK_i ?_); simp only [go_sem]) | (with_reducible refine awp_ret ?_; simp only [retF, retM, retL, resV, resW, retO, resAV, AV.bor, D.bor, D.bor1, D.bor0, AV.flatOwn, D.flatOwn, D.flat, AV.tagged, D.tagged, AObj.plain, go_sem]) | ((with_reducible refine awp_cond' ?_ ?_ (fun hb => ?_) (fun hb => ?_)); (simp only [go_sem]); (simp only [go_sem]); all_goals (simp only [go_sem] at hb; try simp only [bls] at hb)) | ((iterate 6 try ((fail_if_success with_reducible refine hK _ ?_ ?_ ?_); clear hK K)); with_reducible refine hK _ ?_ ?_ ?_; rotate_left; (focus (simp only [go_sem]; exact rfl)); clear hK K) | (with_reducible refine gsplit_i (fun hg0 => ?_) (fun hg0 => ?_) <;> first | (with_reducible first | exact absurd hg0 Bool.false_ne_true | exact absurd hg0.symm Bool.false_ne_true) | (simp only [hg0, go_sem])) | (with_reducible refine nilK_i ?_; intro bnil hnil; try simp only []) | (omega; done) | (intro hv; (try simp only [bls] at hv); (try simp only [bls]); omega) | (intro hg; (simp only [hg, Bool.true_and, true_and, implies_true]; try (intro hg2; simp only [hg2, Bool.not_false, Bool.not_true])); done)))
  all_goals first | omega | skip
end Go.Proofs.YtlankmlgomhbhaaGreatDoor
