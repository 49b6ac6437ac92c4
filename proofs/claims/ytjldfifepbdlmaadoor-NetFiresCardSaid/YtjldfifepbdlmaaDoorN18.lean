/-
 Contracts: Fire, Value; what firing does to sums and to bounds.
-/
import Derived.Test.YtjldfifepbdlmaaDoorN17
set_option linter.unusedSimpArgs false
set_option linter.unusedVariables false
namespace Go.Proofs.YtjldfifepbdlmaaDoor
open Go.Eng Go.RowKit
def fireX (n : Net) (m : List Int) (t : Int) : List Int × Bool × Int :=
 if markE n m ≠ 0 then ([], false, markE n m) else if t < 0 ∨ (n.trs.length : Int) ≤ t then ([], false, 2) else if enB m (n.trs.getD t.toNat Tr.no) = false then ([], false, 0)
 else (firedR (n.trs.getD t.toNat Tr.no) m, decide (firedE (n.trs.getD t.toNat Tr.no) m = 0), firedE (n.trs.getD t.toNat Tr.no) m)
set_option maxHeartbeats 8000000 in
theorem Fire_c (n : Net) (m : List Int) (t : Int) (hf : n.Fits) (hm : m.length ≤ 1000000) :
  ACalls Tryd.prog 24 [.agg n.d, .one (.list (ints m)), .one (.int .i64 t)] (.tup [.one (.list (ints (fireX n m t).1)), .one (.bool (fireX n m t).2.1), .one (.int .i64 (fireX n m t).2.2)]) [] := by
 have h1 := CheckMarking_c n m hf hm
 by_cases h0 : markE n m = 0
 ·obtain ⟨q1, q2, q3⟩ := mark_ok h0
  have hi10 := q1.init
  have ht10 := q1.trs
  rw [h0] at h1
  have hsm : Sm 1000000 m := ⟨fun x hx => by have := q3 x hx; omega⟩
  by_cases hr : t < 0 ∨ (n.trs.length : Int) ≤ t
  ·have e : fireX n m t = ([], false, 2) := by rw [fireX, if_neg (by omega), if_pos hr]
   rw [e]
   simp only [Net.d] at h1
   (refine ACalls.of_body Ty_ok mixed Tryd.func24 rfl (by kernel_rfl) Tryd.ntmps24 (by simp) (congrArg Array.toList Tryd.results24) ?_)
   simp only [slotsOf, Net.d]
   (repeat' (first | (with_reducible first | exact True.intro | refine And.intro ?_ ?_ | refine awp_block ?_ | ((first | refine awp_seq1 9 [] ?_ | refine awp_seq2 9 [] ?_ | refine awp_seq3 9 [] ?_ | refine awp_seq4 9 [] ?_ | refine awp_seq 9 [] ?_); intro K hK)) | ((with_reducible first | refine awp_reg ?_ | refine awp_exit ?_ | refine awp_skip ?_ | refine likeK_i ?_ | refine otWR_i ?_); simp only [go_sem]) | (with_reducible refine awp_ret ?_; simp only [retF, retM, retL, resV, resW, retO, resAV, AV.bor, D.bor, D.bor1, D.bor0, AV.flatOwn, D.flatOwn, D.flat, AV.tagged, D.tagged, AObj.plain, go_sem]) | ((with_reducible refine awp_cond' ?_ ?_ (fun hb => ?_) (fun hb => ?_)); (simp only [go_sem]); (simp only [go_sem]); all_goals (simp only [go_sem] at hb; try simp only [bls] at hb)) | ((iterate 6 try ((fail_if_success with_reducible refine hK _ ?_ ?_ ?_); clear hK K)); with_reducible refine hK _ ?_ ?_ ?_; rotate_left; (focus (simp only [go_sem]; exact rfl)); clear hK K) | ((first | (with_reducible first | refine cA h1 ?_ | refine cD h1 ?_ | refine cO h1 ?_ | refine cR h1 ?_ | refine cG (fun hg => h1) ?_ | refine cH (fun hg => h1) ?_ | refine cM (fun hg => h1) ?_) | (guard_target = CallAt _ _ _ _ _ _ _ _ _ _; refine cA h1 ?_) | (guard_target = DCallAt _ _ _ _ _ _ _ _; refine cD h1 ?_) | (guard_target = GCallAt _ _ _ _ _ _ _ _ _ _ _; refine cG (fun hg => h1) ?_)); simp only [go_sem]) | (with_reducible refine gsplit_i (fun hg0 => ?_) (fun hg0 => ?_) <;> first | (with_reducible first | exact absurd hg0 Bool.false_ne_true | exact absurd hg0.symm Bool.false_ne_true) | (simp only [hg0, go_sem])) | (with_reducible refine nilK_i ?_; intro bnil hnil; try simp only []) | (omega; done) | (intro hv; (try simp only [bls] at hv); (try simp only [bls]); omega) | (intro hg; (simp only [hg, Bool.true_and, true_and, implies_true]; try (intro hg2; simp only [hg2, Bool.not_false, Bool.not_true])); done)))
   all_goals first | omega | skip
   all_goals rfl
  ·have hlt : t.toNat < n.trs.length := by omega
   have hg := trs_get hlt [.int .i64 0, .nil, .nil]
   have hg2 := trs_get hlt []
   have hi1 := q1.inn _ (getD_mem n.trs t.toNat Tr.no hlt)
   have hi2 := q1.out _ (getD_mem n.trs t.toNat Tr.no hlt)
   have e : fireX n m t = if enB m (n.trs.getD t.toNat Tr.no) = false then ([], false, 0)
 else (firedR (n.trs.getD t.toNat Tr.no) m, decide (firedE (n.trs.getD t.toNat Tr.no) m = 0), firedE (n.trs.getD t.toNat Tr.no) m) := by rw [fireX, if_neg (by omega), if_neg hr]
   rw [e]
   generalize n.trs.getD t.toNat Tr.no = x at *
   have h2 := enabled_c m x (by rw [q2]; exact hi1) (by omega)
   have h3 := fired_c m x (by rw [q2]; exact hi1) (by rw [q2]; exact hi2) (by omega) hsm
   simp only [Net.d] at h1
   simp only [Tr.d] at h2 h3
   cases hE : enB m x
   all_goals
    rw [hE] at h2
    (refine ACalls.of_body Ty_ok mixed Tryd.func24 rfl (by kernel_rfl) Tryd.ntmps24 (by simp) (congrArg Array.toList Tryd.results24) ?_)
    simp only [slotsOf, Net.d]
    (repeat' (first | (with_reducible first | exact True.intro | refine And.intro ?_ ?_ | refine awp_block ?_ | ((first | refine awp_seq1 9 [] ?_ | refine awp_seq2 9 [] ?_ | refine awp_seq3 9 [] ?_ | refine awp_seq4 9 [] ?_ | refine awp_seq 9 [] ?_); intro K hK)) | ((with_reducible first | refine awp_reg ?_ | refine awp_exit ?_ | refine awp_skip ?_ | refine likeK_i ?_ | refine otWR_i ?_); simp only [hg, hg2, go_sem]) | (with_reducible refine awp_ret ?_; simp only [retF, retM, retL, resV, resW, retO, resAV, AV.bor, D.bor, D.bor1, D.bor0, AV.flatOwn, D.flatOwn, D.flat, AV.tagged, D.tagged, AObj.plain, hg, hg2, go_sem]) | ((with_reducible refine awp_cond' ?_ ?_ (fun hb => ?_) (fun hb => ?_)); (simp only [hg, hg2, go_sem]); (simp only [hg, hg2, go_sem]); all_goals (simp only [hg, hg2, go_sem] at hb; try simp only [bls] at hb)) | ((iterate 6 try ((fail_if_success with_reducible refine hK _ ?_ ?_ ?_); clear hK K)); with_reducible refine hK _ ?_ ?_ ?_; rotate_left; (focus (simp only [hg, hg2, go_sem]; exact rfl)); clear hK K) | ((first | (with_reducible first | refine cA h1 ?_ | refine cA h2 ?_ | refine cA h3 ?_ | refine cD h1 ?_ | refine cD h2 ?_ | refine cD h3 ?_ | refine cO h1 ?_ | refine cO h2 ?_ | refine cO h3 ?_ | refine cR h1 ?_ | refine cR h2 ?_ | refine cR h3 ?_ | refine cG (fun hg => h1) ?_ | refine cG (fun hg => h2) ?_ | refine cG (fun hg => h3) ?_ | refine cH (fun hg => h1) ?_ | refine cH (fun hg => h2) ?_ | refine cH (fun hg => h3) ?_ | refine cM (fun hg => h1) ?_ | refine cM (fun hg => h2) ?_ | refine cM (fun hg => h3) ?_) | (guard_target = CallAt _ _ _ _ _ _ _ _ _ _; first | refine cA h1 ?_ | refine cA h2 ?_ | refine cA h3 ?_) | (guard_target = DCallAt _ _ _ _ _ _ _ _; first | refine cD h1 ?_ | refine cD h2 ?_ | refine cD h3 ?_) | (guard_target = GCallAt _ _ _ _ _ _ _ _ _ _ _; first | refine cG (fun hg => h1) ?_ | refine cG (fun hg => h2) ?_ | refine cG (fun hg => h3) ?_)); simp only [hg, hg2, go_sem]) | (with_reducible refine gsplit_i (fun hg0 => ?_) (fun hg0 => ?_) <;> first | (with_reducible first | exact absurd hg0 Bool.false_ne_true | exact absurd hg0.symm Bool.false_ne_true) | (simp only [hg0, hg, hg2, go_sem])) | (with_reducible refine nilK_i ?_; intro bnil hnil; try simp only []) | (omega; done) | (intro hv; (try simp only [bls] at hv); (try simp only [bls]); omega) | (intro hg; (simp only [hg, Bool.true_and, true_and, implies_true]; try (intro hg2; simp only [hg2, Bool.not_false, Bool.not_true])); done)))
    all_goals first | omega | skip
   all_goals first | rfl | simp
 ·have e : fireX n m t = ([], false, markE n m) := by rw [fireX, if_pos h0]
  rw [e]
  simp only [Net.d] at h1
  (refine ACalls.of_body Ty_ok mixed Tryd.func24 rfl (by kernel_rfl) Tryd.ntmps24 (by simp) (congrArg Array.toList Tryd.results24) ?_)
  simp only [slotsOf, Net.d]
  (repeat' (first | (with_reducible first | exact True.intro | refine And.intro ?_ ?_ | refine awp_block ?_ | ((first | refine awp_seq1 9 [] ?_ | refine awp_seq2 9 [] ?_ | refine awp_seq3 9 [] ?_ | refine awp_seq4 9 [] ?_ | refine awp_seq 9 [] ?_); intro K hK)) | ((with_reducible first | refine awp_reg ?_ | refine awp_exit ?_ | refine awp_skip ?_ | refine likeK_i ?_ | refine otWR_i ?_); simp only [go_sem]) | (with_reducible refine awp_ret ?_; simp only [retF, retM, retL, resV, resW, retO, resAV, AV.bor, D.bor, D.bor1, D.bor0, AV.flatOwn, D.flatOwn, D.flat, AV.tagged, D.tagged, AObj.plain, go_sem]) | ((with_reducible refine awp_cond' ?_ ?_ (fun hb => ?_) (fun hb => ?_)); (simp only [go_sem]); (simp only [go_sem]); all_goals (simp only [go_sem] at hb; try simp only [bls] at hb)) | ((iterate 6 try ((fail_if_success with_reducible refine hK _ ?_ ?_ ?_); clear hK K)); with_reducible refine hK _ ?_ ?_ ?_; rotate_left; (focus (simp only [go_sem]; exact rfl)); clear hK K) | ((first | (with_reducible first | refine cA h1 ?_ | refine cD h1 ?_ | refine cO h1 ?_ | refine cR h1 ?_ | refine cG (fun hg => h1) ?_ | refine cH (fun hg => h1) ?_ | refine cM (fun hg => h1) ?_) | (guard_target = CallAt _ _ _ _ _ _ _ _ _ _; refine cA h1 ?_) | (guard_target = DCallAt _ _ _ _ _ _ _ _; refine cD h1 ?_) | (guard_target = GCallAt _ _ _ _ _ _ _ _ _ _ _; refine cG (fun hg => h1) ?_)); simp only [go_sem]) | (with_reducible refine gsplit_i (fun hg0 => ?_) (fun hg0 => ?_) <;> first | (with_reducible first | exact absurd hg0 Bool.false_ne_true | exact absurd hg0.symm Bool.false_ne_true) | (simp only [hg0, go_sem])) | (with_reducible refine nilK_i ?_; intro bnil hnil; try simp only []) | (omega; done) | (intro hv; (try simp only [bls] at hv); (try simp only [bls]); omega) | (intro hg; (simp only [hg, Bool.true_and, true_and, implies_true]; try (intro hg2; simp only [hg2, Bool.not_false, Bool.not_true])); done)))
  all_goals first | omega | skip
  all_goals rfl
/-! what firing does -/
def wsum : List Arc → Nat → Int
 | [], _ => 0
 | a :: l, p => (if a.place.toNat = p then a.weight else 0) + wsum l p
theorem set_getD' (l : List Int) (k p : Nat) (x : Int) (hk : k < l.length) : (l.set k x).getD p 0 = if k = p then x else l.getD p 0 := by
 by_cases h : k = p
 ·subst h; rw [if_pos rfl, set_getD l k x 0 hk]
 ·rw [if_neg h]; simp [List.getD, List.getElem?_set_ne h]
theorem applyA_getD (s : Int) : ∀ (l : List Arc) (m : List Int) (p : Nat), ArcsIn m.length l → (applyA s m l).getD p 0 = m.getD p 0 + s * wsum l p
 | [], m, p, _ => by simp [applyA, wsum]
 | a :: l, m, p, h => by
  have ha := h.place a (by simp)
  have hl : ArcsIn (m.set a.place.toNat (m.getD a.place.toNat 0 + s * a.weight)).length l := by
   rw [List.length_set]
   exact ⟨fun b hb => h.place b (by simp [hb]), fun b hb => h.weight b (by simp [hb]), (List.pairwise_cons.1 h.ord).2⟩
  rw [applyA, applyA_getD s l _ p hl, set_getD' m _ p _ (by omega), wsum]
  by_cases e : a.place.toNat = p
  ·rw [if_pos e, if_pos e, e, Int.mul_add]; omega
  ·rw [if_neg e, if_neg e, Int.zero_add]
theorem wsum_zero : ∀ (l : List Arc) (p : Nat), (∀ a ∈ l, a.place.toNat ≠ p) → wsum l p = 0
 | [], _, _ => rfl
 | a :: l, p, h => by rw [wsum, if_neg (h a (by simp)), wsum_zero l p fun b hb => h b (by simp [hb])]; rfl
theorem wsum_arc : ∀ (l : List Arc) (places : Nat) (p : Nat), ArcsIn places l → wsum l p = 0 ∨ ∃ a ∈ l, a.place.toNat = p ∧ wsum l p = a.weight
 | [], _, _, _ => .inl rfl
 | a :: l, places, p, h => by
  have hl : ArcsIn places l := ⟨fun b hb => h.place b (by simp [hb]), fun b hb => h.weight b (by simp [hb]), (List.pairwise_cons.1 h.ord).2⟩
  by_cases e : a.place.toNat = p
  ·have hz := wsum_zero l p fun b hb => by
    have h1 := (List.pairwise_cons.1 h.ord).1 b hb
    have h2 := h.place a (by simp)
    omega
   exact .inr ⟨a, by simp, e, by rw [wsum, if_pos e, hz]; omega⟩
  ·rcases wsum_arc l places p hl with h1 | ⟨b, hb, h1, h2⟩
   ·exact .inl (by rw [wsum, if_neg e, h1]; rfl)
   ·exact .inr ⟨b, by simp [hb], h1, by rw [wsum, if_neg e, h2]; omega⟩
theorem wsum_bound {l : List Arc} {places p : Nat} (h : ArcsIn places l) : 0 ≤ wsum l p ∧ wsum l p ≤ 8 := by
 rcases wsum_arc l places p h with h1 | ⟨a, ha, _, h2⟩
 ·omega
 ·have := h.weight a ha; omega
theorem enB_wsum {m : List Int} {t : Tr} (h : ArcsIn m.length t.inn) (he : enB m t = true) (p : Nat) (hp : 0 ≤ m.getD p 0) : wsum t.inn p ≤ m.getD p 0 := by
 rcases wsum_arc t.inn _ p h with h1 | ⟨a, ha, h1, h2⟩
 ·omega
 ·rw [enB, Bool.not_eq_true', List.any_eq_false] at he
  have := he a ha
  simp only [lacksB, decide_eq_true_eq] at this
  rw [h1] at this
  omega
theorem firedL_getD {m : List Int} {t : Tr} (h1 : ArcsIn m.length t.inn) (h2 : ArcsIn m.length t.out) (p : Nat) : (firedL t m).getD p 0 = m.getD p 0 - wsum t.inn p + wsum t.out p := by
 rw [firedL, applyA_getD 1 t.out _ p (by rw [applyA_length]; exact h2), applyA_getD (-1) t.inn m p h1]
 omega
theorem mem_getD {l : List Int} {x : Int} (h : x ∈ l) : ∃ p, p < l.length ∧ l.getD p 0 = x := by
 obtain ⟨i, hi, rfl⟩ := List.mem_iff_getElem.1 h
 exact ⟨i, hi, by simp [List.getD, List.getElem?_eq_getElem hi]⟩
end Go.Proofs.YtjldfifepbdlmaaDoor
