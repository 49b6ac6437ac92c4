/-
 Chapter 05: the law NondeterministicDeterminizes.
-/
import Derived.Test.YtgagpbbnbonnlaaDoorZK
import Derived.Test.YtgagpbbnbonnlaaDoorZM
import Derived.Test.YtgagpbbnbonnlaaDoorZXD
set_option linter.unusedSimpArgs false
set_option linter.unusedVariables false
namespace Go.Proofs.YtgagpbbnbonnlaaDoor
open Go.Eng Go.RowKit
theorem Dft.good' (d : Dft) : DGood d.na d.n := by
 have h := dgood_of d.fits d.chk
 have e : d.na.states.toNat = d.n := Int.toNat_natCast d.n
 rwa [e] at h
theorem detIn_es (st : List Int → Int → List Int) (i : Nat) (s : List Int) : ∀ (al : List Int) (sets : List (List Int)) (es : List Ed), (detIn st i s al sets es).2.length ≤ es.length + al.length
 | [], sets, es => by simp [detIn]
 | x :: al, sets, es => by
  rw [detIn]
  split
  ·have := detIn_es st i s al sets es
   simp only [List.length_cons]; omega
  ·split
   ·rename_i k _
    have := detIn_es st i s al sets (es ++ [⟨i, x, k⟩])
    simp only [List.length_append, List.length_cons, List.length_nil] at this ⊢; omega
   ·have := detIn_es st i s al (sets ++ [st s x]) (es ++ [⟨i, x, sets.length⟩])
    simp only [List.length_append, List.length_cons, List.length_nil] at this ⊢; omega
theorem det_sizes {st : List Int → Int → List Int} {mt : List Int → Bool} {al : List Int} {lim : Nat} : ∀ (f i : Nat) (sets : List (List Int)) (mk : List Int) (es : List Ed) {r : List (List Int) × List Int × List Ed}, detOut st mt al lim f i sets mk es = some r → i ≤ sets.length → mk.length ≤ i → es.length ≤ al.length * i → r.2.1.length ≤ r.1.length ∧ r.2.2.length ≤ al.length * r.1.length
 | 0, i, sets, mk, es, r, h, _, _, _ => by cases h
 | f + 1, i, sets, mk, es, r, h, hi, hm, he => by
  rw [detOut] at h
  split at h
  ·rename_i hlt
   split at h
   ·cases h
   ·obtain ⟨⟨x, hx⟩, _⟩ := detIn_prefix st i (sets.getD i []) al sets es
    refine det_sizes f (i + 1) _ _ _ h (by rw [hx, List.length_append]; omega) (by split <;> (try simp only [List.length_append, List.length_singleton]) <;> omega) ?_
    have := detIn_es st i (sets.getD i []) al sets es
    rw [Nat.mul_add, Nat.mul_one]
    omega
  ·cases h
   have e : i = sets.length := by omega
   subst e
   exact ⟨hm, he⟩
theorem Dft.det (d : Dft) : ∃ r, detN d.na (-1) = some r ∧ r.1.length ≤ 32 ∧ (∀ s ∈ r.1, s.length ≤ 5) ∧ r.2.1.length ≤ 32 ∧ r.2.2.length ≤ 128 := by
 have h5 := d.n_lt
 obtain ⟨r, hr, hD⟩ := detN_some d.ok (-1) (show ((d.n : Nat) : Int) ≤ 12 by omega)
 have hn : d.na.states.toNat = d.n := Int.toNat_natCast d.n
 rw [hn] at hD
 have hl : r.1.length ≤ 2 ^ 5 := Nat.le_trans hD.le (Nat.pow_le_pow_right (by decide) (by omega))
 have hs := det_sizes _ _ _ _ _ hr (by omega) (by simp) (by simp)
 have ha := d.al_len
 have hal : d.na.alpha.length ≤ 4 := ha
 have hm : d.na.alpha.length * r.1.length ≤ 4 * 32 := Nat.mul_le_mul hal hl
 exact ⟨r, hr, hl, fun s hs => by have := inc_len (hD.set s hs).2.1 (hD.set s hs).2.2; omega, by omega, by omega⟩
theorem refDeterminize_c (a : NA) (n : Nat) (h : DGood a n) (r : List (List Int) × List Int × List Ed) (hr : detN a (-1) = some r) : ACalls Tryd.prog 16 [.agg a.d] (rdAV a r) [] := by
 by_cases hi : a.init = []
 ·have e : detN a (-1) = some ([], [], []) := by rw [detN, if_pos hi]; rfl
  rw [e] at hr
  cases hr
  exact refDet0_c a (by have := h.fits.alpha; omega) hi
 ·exact refDet1_c a n h hi r hr
set_option maxHeartbeats 16000000 in
set_option maxRecDepth 20000 in
theorem Determinizes_law (d : Dft) (hd : d.Ok) : ACalls Tryd.prog 3 [.agg d.d] (.one (.bool true)) [] := by
 have k := known_c
 have m := Make_c d hd
 obtain ⟨r, hr, h1, h2, h3, h4⟩ := d.det
 have c1 := Determinize_c d.na d.n d.good' d.chk
 have c2 := refDeterminize_c d.na d.n d.good' r hr
 rw [hr] at c1
 have hal : d.na.alpha.length ≤ 4 := d.al_len
 have c3 := same_c ⟨d.na.alpha, r.1.length, r.2.1, r.2.2⟩ ⟨d.na.alpha, r.1.length, r.2.1, r.2.2⟩ ⟨by show d.na.alpha.length ≤ 1000; omega, by show (if 0 < ((r.1.length : Nat) : Int) then [0] else []).length ≤ 1000; split <;> decide, by show r.2.1.length ≤ 1000; omega, by show r.2.2.length ≤ 1000; omega⟩
 rw [decide_eq_true rfl] at c3
 have c4 := fun s hs => Same_c s s (Nat.le_trans (h2 s hs) (by decide))
 simp only [decide_true] at c4
 simp only [Dft.d] at m
 simp only [detAV, rdAV, AU.d] at c1 c2 c3
 generalize d.na = A at *
 simp only [NA.d] at m c1 c2
 (refine ACalls.of_body Ty_ok mixed Tryd.func3 rfl (by kernel_rfl) Tryd.ntmps3 (by simp) (congrArg Array.toList Tryd.results3) ?_)
 simp only [slotsOf, Dft.d]
 (repeat' (first | (with_reducible first | exact True.intro | refine And.intro ?_ ?_ | refine awp_block ?_ | ((first | refine awp_seq1 10 [] ?_ | refine awp_seq2 10 [] ?_ | refine awp_seq3 10 [] ?_ | refine awp_seq4 10 [] ?_ | refine awp_seq 10 [] ?_); intro K hK)) | ((with_reducible first | refine awp_reg ?_ | refine awp_exit ?_ | refine awp_skip ?_ | refine likeK_i ?_ | refine otWR_i ?_ | refine rP Ty_ok mixed 11 [0, 1, 4, 5] [.mid [pe 2, pe 3, pe 6, pe 7] 0, .one 8, .one 9] ?_); simp only [go_sem]) | (with_reducible refine awp_ret ?_; simp only [retF, retM, retL, resV, resW, retO, resAV, AV.bor, D.bor, D.bor1, D.bor0, AV.flatOwn, D.flatOwn, D.flat, AV.tagged, D.tagged, AObj.plain, go_sem]) | ((with_reducible refine awp_cond' ?_ ?_ (fun hb => ?_) (fun hb => ?_)); (simp only [go_sem]); (simp only [go_sem]); all_goals (simp only [go_sem] at hb; try simp only [bls] at hb)) | ((iterate 6 try ((fail_if_success with_reducible refine hK _ ?_ ?_ ?_); clear hK K)); with_reducible refine hK _ ?_ ?_ ?_; rotate_left; (focus (simp only [go_sem]; exact rfl)); clear hK K) | ((first | (with_reducible first | refine cA k ?_ | refine cA m ?_ | refine cA c1 ?_ | refine cA c2 ?_ | refine cA c3 ?_ | refine cD k ?_ | refine cD m ?_ | refine cD c1 ?_ | refine cD c2 ?_ | refine cD c3 ?_ | refine cO k ?_ | refine cO m ?_ | refine cO c1 ?_ | refine cO c2 ?_ | refine cO c3 ?_ | refine cR k ?_ | refine cR m ?_ | refine cR c1 ?_ | refine cR c2 ?_ | refine cR c3 ?_ | refine cG (fun hg => k) ?_ | refine cG (fun hg => m) ?_ | refine cG (fun hg => c1) ?_ | refine cG (fun hg => c2) ?_ | refine cG (fun hg => c3) ?_ | refine cH (fun hg => k) ?_ | refine cH (fun hg => m) ?_ | refine cH (fun hg => c1) ?_ | refine cH (fun hg => c2) ?_ | refine cH (fun hg => c3) ?_ | refine cM (fun hg => k) ?_ | refine cM (fun hg => m) ?_ | refine cM (fun hg => c1) ?_ | refine cM (fun hg => c2) ?_ | refine cM (fun hg => c3) ?_) | (guard_target = CallAt _ _ _ _ _ _ _ _ _ _; first | refine cA k ?_ | refine cA m ?_ | refine cA c1 ?_ | refine cA c2 ?_ | refine cA c3 ?_) | (guard_target = DCallAt _ _ _ _ _ _ _ _; first | refine cD k ?_ | refine cD m ?_ | refine cD c1 ?_ | refine cD c2 ?_ | refine cD c3 ?_) | (guard_target = GCallAt _ _ _ _ _ _ _ _ _ _ _; first | refine cG (fun hg => k) ?_ | refine cG (fun hg => m) ?_ | refine cG (fun hg => c1) ?_ | refine cG (fun hg => c2) ?_ | refine cG (fun hg => c3) ?_)); simp only [go_sem]) | (with_reducible refine gsplit_i (fun hg0 => ?_) (fun hg0 => ?_) <;> first | (with_reducible first | exact absurd hg0 Bool.false_ne_true | exact absurd hg0.symm Bool.false_ne_true) | (simp only [hg0, go_sem])) | (with_reducible refine nilK_i ?_; intro bnil hnil; try simp only []) | (omega; done) | (intro hv; (try simp only [bls] at hv); (try simp only [bls]); omega) | (intro hg; (simp only [hg, Bool.true_and, true_and, implies_true]; try (intro hg2; simp only [hg2, Bool.not_false, Bool.not_true])); done)))
 all_goals first | omega | skip
 refine awp_loop _ (by simp only [go_sem]; rfl) Nat (fun i => i ≤ r.1.length) (fun i => [(9, .one (.int .i64 i))]) (fun _ H => H) (fun i => r.1.length - i) 0 (by omega) ?_ ?_
 ·(simp only [SubF, go_sem]; (try simp only [go_sem]); repeat' (first | exact True.intro | with_reducible refine And.intro ?_ ?_ | rfl | omega))
 rintro i hi L hL
 have hq : ((i : Nat) : Int).toNat = i := by omega
 by_cases hlt : i < r.1.length
 ·have hw := words_at (l := r.1) hlt [.nil]
  have hw2 := words_at (l := r.1) hlt []
  have c5 := c4 _ (getD_mem r.1 i [] hlt)
  generalize r.1.getD i [] = s at *
  (simp only [go_sem] at hL ⊢)
  (repeat' (first | (with_reducible first | exact True.intro | refine And.intro ?_ ?_ | refine awp_block ?_ | ((first | refine awp_seq1 10 [] ?_ | refine awp_seq2 10 [] ?_ | refine awp_seq3 10 [] ?_ | refine awp_seq4 10 [] ?_ | refine awp_seq 10 [] ?_); intro K hK)) | ((with_reducible first | refine awp_reg ?_ | refine awp_exit ?_ | refine awp_skip ?_ | refine likeK_i ?_ | refine otWR_i ?_ | refine rP Ty_ok mixed 11 [0, 1, 4, 5] [.mid [pe 2, pe 3, pe 6, pe 7] 0, .one 8, .one 9] ?_); simp only [hq, hw, hw2, go_sem]) | (with_reducible refine awp_ret ?_; simp only [retF, retM, retL, resV, resW, retO, resAV, AV.bor, D.bor, D.bor1, D.bor0, AV.flatOwn, D.flatOwn, D.flat, AV.tagged, D.tagged, AObj.plain, hq, hw, hw2, go_sem]) | ((with_reducible refine awp_cond' ?_ ?_ (fun hb => ?_) (fun hb => ?_)); (simp only [hq, hw, hw2, go_sem]); (simp only [hq, hw, hw2, go_sem]); all_goals (simp only [hq, hw, hw2, go_sem] at hb; try simp only [bls] at hb)) | ((iterate 6 try ((fail_if_success with_reducible refine hK _ ?_ ?_ ?_); clear hK K)); with_reducible refine hK _ ?_ ?_ ?_; rotate_left; (focus (simp only [hq, hw, hw2, go_sem]; exact rfl)); clear hK K) | ((first | (with_reducible first | refine cA c5 ?_ | refine cD c5 ?_ | refine cO c5 ?_ | refine cR c5 ?_ | refine cG (fun hg => c5) ?_ | refine cH (fun hg => c5) ?_ | refine cM (fun hg => c5) ?_) | (guard_target = CallAt _ _ _ _ _ _ _ _ _ _; refine cA c5 ?_) | (guard_target = DCallAt _ _ _ _ _ _ _ _; refine cD c5 ?_) | (guard_target = GCallAt _ _ _ _ _ _ _ _ _ _ _; refine cG (fun hg => c5) ?_)); simp only [hq, hw, hw2, go_sem]) | (with_reducible refine gsplit_i (fun hg0 => ?_) (fun hg0 => ?_) <;> first | (with_reducible first | exact absurd hg0 Bool.false_ne_true | exact absurd hg0.symm Bool.false_ne_true) | (simp only [hg0, hq, hw, hw2, go_sem])) | (with_reducible refine nilK_i ?_; intro bnil hnil; try simp only []) | (omega; done) | (intro hv; (try simp only [bls] at hv); (try simp only [bls]); omega) | (intro hg; (simp only [hg, Bool.true_and, true_and, implies_true]; try (intro hg2; simp only [hg2, Bool.not_false, Bool.not_true])); done)))
  all_goals first | omega | skip
  exact hL _ (i + 1) (by omega) (by (simp only [SubF, go_sem]; (try simp only [go_sem]); repeat' (first | exact True.intro | with_reducible refine And.intro ?_ ?_ | rfl | omega))) (by omega)
 ·(simp only [go_sem] at hL ⊢)
  (repeat' (first | (with_reducible first | exact True.intro | refine And.intro ?_ ?_ | refine awp_block ?_ | ((first | refine awp_seq1 10 [] ?_ | refine awp_seq2 10 [] ?_ | refine awp_seq3 10 [] ?_ | refine awp_seq4 10 [] ?_ | refine awp_seq 10 [] ?_); intro K hK)) | ((with_reducible first | refine awp_reg ?_ | refine awp_exit ?_ | refine awp_skip ?_ | refine likeK_i ?_ | refine otWR_i ?_ | refine rP Ty_ok mixed 11 [0, 1, 4, 5] [.mid [pe 2, pe 3, pe 6, pe 7] 0, .one 8, .one 9] ?_); simp only [hq, go_sem]) | (with_reducible refine awp_ret ?_; simp only [retF, retM, retL, resV, resW, retO, resAV, AV.bor, D.bor, D.bor1, D.bor0, AV.flatOwn, D.flatOwn, D.flat, AV.tagged, D.tagged, AObj.plain, hq, go_sem]) | ((with_reducible refine awp_cond' ?_ ?_ (fun hb => ?_) (fun hb => ?_)); (simp only [hq, go_sem]); (simp only [hq, go_sem]); all_goals (simp only [hq, go_sem] at hb; try simp only [bls] at hb)) | ((iterate 6 try ((fail_if_success with_reducible refine hK _ ?_ ?_ ?_); clear hK K)); with_reducible refine hK _ ?_ ?_ ?_; rotate_left; (focus (simp only [hq, go_sem]; exact rfl)); clear hK K) | (with_reducible refine gsplit_i (fun hg0 => ?_) (fun hg0 => ?_) <;> first | (with_reducible first | exact absurd hg0 Bool.false_ne_true | exact absurd hg0.symm Bool.false_ne_true) | (simp only [hg0, hq, go_sem])) | (with_reducible refine nilK_i ?_; intro bnil hnil; try simp only []) | (omega; done) | (intro hv; (try simp only [bls] at hv); (try simp only [bls]); omega) | (intro hg; (simp only [hg, Bool.true_and, true_and, implies_true]; try (intro hg2; simp only [hg2, Bool.not_false, Bool.not_true])); done)))
  all_goals first | omega | skip
end Go.Proofs.YtgagpbbnbonnlaaDoor
