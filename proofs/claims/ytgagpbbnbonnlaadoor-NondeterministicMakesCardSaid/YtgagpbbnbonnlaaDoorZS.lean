/-
 Chapter 05: the reference's order of edges, Reverse, Erase.
-/
import Derived.Test.YtgagpbbnbonnlaaDoorZW
import Derived.Test.YtgagpbbnbonnlaaDoorZE
import Derived.Test.YtgagpbbnbonnlaaDoorZD
set_option linter.unusedSimpArgs false
set_option linter.unusedVariables false
namespace Go.Proofs.YtgagpbbnbonnlaaDoor
open Go.Eng Go.RowKit
def placeE (x : Ed) : List Ed → Nat
 | [] => 0
 | y :: l => if edLt y x then placeE x l + 1 else 0
theorem placeE_le (x : Ed) : ∀ l, placeE x l ≤ l.length
 | [] => Nat.le_refl _
 | y :: l => by rw [placeE]; split <;> simp only [List.length_cons] <;> have := placeE_le x l <;> omega
theorem placeE_lt (x : Ed) : ∀ (l : List Ed) (k : Nat), k < placeE x l → edLt (l.getD k Ed.no) x
 | [], k, h => absurd h (Nat.not_lt_zero _)
 | y :: l, k, h => by
  rw [placeE] at h
  split at h
  ·rename_i hy
   cases k with
   | zero => exact hy
   | succ k => exact placeE_lt x l k (by omega)
  ·omega
theorem placeE_at (x : Ed) : ∀ (l : List Ed), placeE x l < l.length → ¬ edLt (l.getD (placeE x l) Ed.no) x
 | [], h => absurd h (Nat.not_lt_zero _)
 | y :: l, h => by
  rw [placeE] at h ⊢
  split at h
  ·rename_i hy
   rw [if_pos hy]
   exact placeE_at x l (by simp only [List.length_cons] at h; omega)
  ·rename_i hy
   rw [if_neg hy]
   exact hy
theorem insE_at (x : Ed) : ∀ (l : List Ed), insE x l = if placeE x l < l.length ∧ l.getD (placeE x l) Ed.no = x then l else l.take (placeE x l) ++ x :: l.drop (placeE x l)
 | [] => by simp [insE, placeE]
 | y :: l => by
  rw [insE, placeE]
  by_cases h1 : edLt y x
  ·rw [if_pos h1, if_pos h1, insE_at x l]
   simp only [List.length_cons, List.getD_cons_succ, Nat.succ_lt_succ_iff, List.take_succ_cons, List.drop_succ_cons, List.cons_append]
   split <;> rfl
  ·rw [if_neg h1, if_neg h1]
   by_cases h2 : y = x
   ·simp [h2]
   ·simp [h2]
theorem insE_length (x : Ed) (l : List Ed) : (insE x l).length ≤ l.length + 1 := by
 rw [insE_at]
 split
 ·omega
 ·have := placeE_le x l
  simp only [List.length_append, List.length_cons, List.length_take, List.length_drop]; omega
set_option maxHeartbeats 16000000 in
theorem sorted_c (l : List Ed) (hl : l.length ≤ 100000) : ACalls Tryd.prog 70 [.one (.list (edD l))] (.one (.list (edD (sortE l)))) [] := by
 (refine ACalls.of_body Ty_ok mixed Tryd.func70 rfl (by kernel_rfl) Tryd.ntmps70 (by simp) (congrArg Array.toList Tryd.results70) ?_)
 simp only [slotsOf]
 (repeat' (first | (with_reducible first | exact True.intro | refine And.intro ?_ ?_ | refine awp_block ?_ | ((first | refine awp_seq1 6 [] ?_ | refine awp_seq2 6 [] ?_ | refine awp_seq3 6 [] ?_ | refine awp_seq4 6 [] ?_ | refine awp_seq 6 [] ?_); intro K hK)) | ((with_reducible first | refine awp_reg ?_ | refine awp_exit ?_ | refine awp_skip ?_ | refine likeK_i ?_ | refine otWR_i ?_ | refine rP Ty_ok mixed 9 [0, 1, 2, 4, 5, 9, 10] [.mid [pe 6, pe 7, ⟨3, 0, false, true, false, [], []⟩, ⟨11, 0, false, true, false, [], []⟩] 0, .one 8, .one 12, .one 13, .one 14] ?_ | refine rP Ty_ok mixed 6 [0, 1] [.mid [pe 2, pe 3, pe 4, pe 5, pe 6, pe 7, pe 8, pe 9, pe 10, pe 11, pe 12] 0, .one 13, .one 14] ?_ | refine rD (id := 8) ?_); simp only [go_sem]) | (with_reducible refine awp_ret ?_; simp only [retF, retM, retL, resV, resW, retO, resAV, AV.bor, D.bor, D.bor1, D.bor0, AV.flatOwn, D.flatOwn, D.flat, AV.tagged, D.tagged, AObj.plain, go_sem]) | ((with_reducible refine awp_cond' ?_ ?_ (fun hb => ?_) (fun hb => ?_)); (simp only [go_sem]); (simp only [go_sem]); all_goals (simp only [go_sem] at hb; try simp only [bls] at hb)) | ((iterate 6 try ((fail_if_success with_reducible refine hK _ ?_ ?_ ?_); clear hK K)); with_reducible refine hK _ ?_ ?_ ?_; rotate_left; (focus (simp only [go_sem]; exact rfl)); clear hK K) | (with_reducible refine gsplit_i (fun hg0 => ?_) (fun hg0 => ?_) <;> first | (with_reducible first | exact absurd hg0 Bool.false_ne_true | exact absurd hg0.symm Bool.false_ne_true) | (simp only [hg0, go_sem])) | (with_reducible refine nilK_i ?_; intro bnil hnil; try simp only []) | (omega; done) | (intro hv; (try simp only [bls] at hv); (try simp only [bls]); omega) | (intro hg; (simp only [hg, Bool.true_and, true_and, implies_true]; try (intro hg2; simp only [hg2, Bool.not_false, Bool.not_true])); done)))
 all_goals first | omega | skip
 refine awp_loop _ (by simp only [go_sem]; rfl) (Nat × List Ed) (fun q => q.1 ≤ l.length ∧ sortE l = (l.drop q.1).foldl (fun out x => insE x out) q.2 ∧ q.2.length ≤ q.1)
  (fun q => [(3, .one (.list (edD q.2))), (4, .one (.int .i64 q.1))]) (fun _ _ => [.row 43 3 []]) (fun q => l.length - q.1) (0, []) ⟨by simp, rfl, by simp⟩ ?_ ?_
 ·rw [show edD [] = [] from rfl]
  (simp only [SubF, go_sem]; (try simp only [go_sem]); repeat' (first | exact True.intro | with_reducible refine And.intro ?_ ?_ | rfl | omega))
 rintro ⟨i, out⟩ ⟨hi, hres, hol⟩ L hL
 simp only at hi hres hol
 have hq : ((i : Nat) : Int).toNat = i := by omega
 by_cases hlt : i < l.length
 ·rw [drop_getD l i Ed.no hlt, List.foldl_cons] at hres
  have hat := eds_at (l := l) hlt []
  have hins := insE_at (l.getD i Ed.no) out
  have hinl := insE_length (l.getD i Ed.no) out
  have hple := placeE_le (l.getD i Ed.no) out
  have hplt := placeE_lt (l.getD i Ed.no) out
  have hpat := placeE_at (l.getD i Ed.no) out
  have cb := fun y => before_c y (l.getD i Ed.no)
  generalize hx : l.getD i Ed.no = x at *
  simp only [Ed.d] at cb
  (simp only [go_sem] at hL ⊢)
  (repeat' (first | (with_reducible first | exact True.intro | refine And.intro ?_ ?_ | refine awp_block ?_ | ((first | refine awp_seq1 6 [] ?_ | refine awp_seq2 6 [] ?_ | refine awp_seq3 6 [] ?_ | refine awp_seq4 6 [] ?_ | refine awp_seq 6 [] ?_); intro K hK)) | ((with_reducible first | refine awp_reg ?_ | refine awp_exit ?_ | refine awp_skip ?_ | refine likeK_i ?_ | refine otWR_i ?_ | refine rP Ty_ok mixed 9 [0, 1, 2, 4, 5, 9, 10] [.mid [pe 6, pe 7, ⟨3, 0, false, true, false, [], []⟩, ⟨11, 0, false, true, false, [], []⟩] 0, .one 8, .one 12, .one 13, .one 14] ?_ | refine rP Ty_ok mixed 6 [0, 1] [.mid [pe 2, pe 3, pe 4, pe 5, pe 6, pe 7, pe 8, pe 9, pe 10, pe 11, pe 12] 0, .one 13, .one 14] ?_ | refine rD (id := 8) ?_); simp only [hq, hat, hx, go_sem]) | (with_reducible refine awp_ret ?_; simp only [retF, retM, retL, resV, resW, retO, resAV, AV.bor, D.bor, D.bor1, D.bor0, AV.flatOwn, D.flatOwn, D.flat, AV.tagged, D.tagged, AObj.plain, hq, hat, hx, go_sem]) | ((with_reducible refine awp_cond' ?_ ?_ (fun hb => ?_) (fun hb => ?_)); (simp only [hq, hat, hx, go_sem]); (simp only [hq, hat, hx, go_sem]); all_goals (simp only [hq, hat, hx, go_sem] at hb; try simp only [bls] at hb)) | ((iterate 6 try ((fail_if_success with_reducible refine hK _ ?_ ?_ ?_); clear hK K)); with_reducible refine hK _ ?_ ?_ ?_; rotate_left; (focus (simp only [hq, hat, hx, go_sem]; exact rfl)); clear hK K) | (with_reducible refine gsplit_i (fun hg0 => ?_) (fun hg0 => ?_) <;> first | (with_reducible first | exact absurd hg0 Bool.false_ne_true | exact absurd hg0.symm Bool.false_ne_true) | (simp only [hg0, hq, hat, hx, go_sem])) | (with_reducible refine nilK_i ?_; intro bnil hnil; try simp only []) | (omega; done) | (intro hv; (try simp only [bls] at hv); (try simp only [bls]); omega) | (intro hg; (simp only [hg, Bool.true_and, true_and, implies_true]; try (intro hg2; simp only [hg2, Bool.not_false, Bool.not_true])); done)))
  all_goals first | omega | skip
  have hO := hL
  clear hL
  refine awp_loop _ (by simp only [go_sem]; rfl) Nat (fun k => k ≤ placeE x out) (fun k => [(5, .one (.int .i64 k))]) (fun _ H => H) (fun k => out.length - k) 0 (by omega) ?_ ?_
  ·(simp only [SubF, go_sem]; (try simp only [go_sem]); repeat' (first | exact True.intro | with_reducible refine And.intro ?_ ?_ | rfl | omega))
  rintro k hk L2 hL
  have hqk : ((k : Nat) : Int).toNat = k := by omega
  have c1 := cb (out.getD k Ed.no)
  by_cases hkp : k < placeE x out
  ·have hp := hplt k hkp
   have hko : k < out.length := by omega
   rw [decide_eq_true hp] at c1
   (simp only [go_sem] at hL ⊢)
   (repeat' (first | (with_reducible first | exact True.intro | refine And.intro ?_ ?_ | refine awp_block ?_ | ((first | refine awp_seq1 6 [] ?_ | refine awp_seq2 6 [] ?_ | refine awp_seq3 6 [] ?_ | refine awp_seq4 6 [] ?_ | refine awp_seq 6 [] ?_); intro K hK)) | ((with_reducible first | refine awp_reg ?_ | refine awp_exit ?_ | refine awp_skip ?_ | refine likeK_i ?_ | refine otWR_i ?_ | refine rP Ty_ok mixed 9 [0, 1, 2, 4, 5, 9, 10] [.mid [pe 6, pe 7, ⟨3, 0, false, true, false, [], []⟩, ⟨11, 0, false, true, false, [], []⟩] 0, .one 8, .one 12, .one 13, .one 14] ?_ | refine rP Ty_ok mixed 6 [0, 1] [.mid [pe 2, pe 3, pe 4, pe 5, pe 6, pe 7, pe 8, pe 9, pe 10, pe 11, pe 12] 0, .one 13, .one 14] ?_ | refine rD (id := 8) ?_); simp only [hq, hqk, hat, hx, go_sem]) | (with_reducible refine awp_ret ?_; simp only [retF, retM, retL, resV, resW, retO, resAV, AV.bor, D.bor, D.bor1, D.bor0, AV.flatOwn, D.flatOwn, D.flat, AV.tagged, D.tagged, AObj.plain, hq, hqk, hat, hx, go_sem]) | ((with_reducible refine awp_cond' ?_ ?_ (fun hb => ?_) (fun hb => ?_)); (simp only [hq, hqk, hat, hx, go_sem]); (simp only [hq, hqk, hat, hx, go_sem]); all_goals (simp only [hq, hqk, hat, hx, go_sem] at hb; try simp only [bls] at hb)) | ((iterate 6 try ((fail_if_success with_reducible refine hK _ ?_ ?_ ?_); clear hK K)); with_reducible refine hK _ ?_ ?_ ?_; rotate_left; (focus (simp only [hq, hqk, hat, hx, go_sem]; exact rfl)); clear hK K) | ((first | (with_reducible first | refine cA c1 ?_ | refine cD c1 ?_ | refine cO c1 ?_ | refine cR c1 ?_ | refine cG (fun hg => c1) ?_ | refine cH (fun hg => c1) ?_ | refine cM (fun hg => c1) ?_) | (guard_target = CallAt _ _ _ _ _ _ _ _ _ _; refine cA c1 ?_) | (guard_target = DCallAt _ _ _ _ _ _ _ _; refine cD c1 ?_) | (guard_target = GCallAt _ _ _ _ _ _ _ _ _ _ _; refine cG (fun hg => c1) ?_)); simp only [hq, hqk, hat, hx, go_sem]) | (with_reducible refine gsplit_i (fun hg0 => ?_) (fun hg0 => ?_) <;> first | (with_reducible first | exact absurd hg0 Bool.false_ne_true | exact absurd hg0.symm Bool.false_ne_true) | (simp only [hg0, hq, hqk, hat, hx, go_sem])) | (with_reducible refine nilK_i ?_; intro bnil hnil; try simp only []) | (omega; done) | (intro hv; (try simp only [bls] at hv); (try simp only [bls]); omega) | (intro hg; (simp only [hg, Bool.true_and, true_and, implies_true]; try (intro hg2; simp only [hg2, Bool.not_false, Bool.not_true])); done)))
   all_goals first | omega | skip
   exact hL _ (k + 1) (by omega) (by (simp only [SubF, go_sem]; (try simp only [go_sem]); repeat' (first | exact True.intro | with_reducible refine And.intro ?_ ?_ | rfl | omega))) (by omega)
  ·obtain rfl : k = placeE x out := by omega
   have htk : List.take out.length (edD out) = edD out := List.take_of_length_le (by rw [eds_length]; exact Nat.le_refl _)
   have hl1 : (out.take (placeE x out)).length = placeE x out := by rw [List.length_take]; omega
   have he : edD (out.take (placeE x out) ++ x :: out.drop (placeE x out)) = edD (out.take (placeE x out)) ++ [.int .i64 x.src, .int .i64 x.ev, .int .i64 x.dst] :: edD (out.drop (placeE x out)) := by rw [← eds_append]; rfl
   have hl2 : (out.drop (placeE x out)).length = out.length - placeE x out := List.length_drop
   by_cases hko : placeE x out < out.length
   ·have hp := hpat hko
    rw [decide_eq_false hp] at c1
    (simp only [go_sem] at hL ⊢)
    (repeat' (first | (with_reducible first | exact True.intro | refine And.intro ?_ ?_ | refine awp_block ?_ | ((first | refine awp_seq1 6 [] ?_ | refine awp_seq2 6 [] ?_ | refine awp_seq3 6 [] ?_ | refine awp_seq4 6 [] ?_ | refine awp_seq 6 [] ?_); intro K hK)) | ((with_reducible first | refine awp_reg ?_ | refine awp_exit ?_ | refine awp_skip ?_ | refine likeK_i ?_ | refine otWR_i ?_ | refine rP Ty_ok mixed 9 [0, 1, 2, 4, 5, 9, 10] [.mid [pe 6, pe 7, ⟨3, 0, false, true, false, [], []⟩, ⟨11, 0, false, true, false, [], []⟩] 0, .one 8, .one 12, .one 13, .one 14] ?_ | refine rP Ty_ok mixed 6 [0, 1] [.mid [pe 2, pe 3, pe 4, pe 5, pe 6, pe 7, pe 8, pe 9, pe 10, pe 11, pe 12] 0, .one 13, .one 14] ?_ | refine rD (id := 8) ?_); simp only [hq, hqk, hat, hx, htk, eds_take, eds_drop, hl1, hl2, go_sem]) | (with_reducible refine awp_ret ?_; simp only [retF, retM, retL, resV, resW, retO, resAV, AV.bor, D.bor, D.bor1, D.bor0, AV.flatOwn, D.flatOwn, D.flat, AV.tagged, D.tagged, AObj.plain, hq, hqk, hat, hx, htk, eds_take, eds_drop, hl1, hl2, go_sem]) | ((with_reducible refine awp_cond' ?_ ?_ (fun hb => ?_) (fun hb => ?_)); (simp only [hq, hqk, hat, hx, htk, eds_take, eds_drop, hl1, hl2, go_sem]); (simp only [hq, hqk, hat, hx, htk, eds_take, eds_drop, hl1, hl2, go_sem]); all_goals (simp only [hq, hqk, hat, hx, htk, eds_take, eds_drop, hl1, hl2, go_sem] at hb; try simp only [bls] at hb)) | ((iterate 6 try ((fail_if_success with_reducible refine hK _ ?_ ?_ ?_); clear hK K)); with_reducible refine hK _ ?_ ?_ ?_; rotate_left; (focus (simp only [hq, hqk, hat, hx, htk, eds_take, eds_drop, hl1, hl2, go_sem]; exact rfl)); clear hK K) | ((first | (with_reducible first | refine cA c1 ?_ | refine cD c1 ?_ | refine cO c1 ?_ | refine cR c1 ?_ | refine cG (fun hg => c1) ?_ | refine cH (fun hg => c1) ?_ | refine cM (fun hg => c1) ?_) | (guard_target = CallAt _ _ _ _ _ _ _ _ _ _; refine cA c1 ?_) | (guard_target = DCallAt _ _ _ _ _ _ _ _; refine cD c1 ?_) | (guard_target = GCallAt _ _ _ _ _ _ _ _ _ _ _; refine cG (fun hg => c1) ?_)); simp only [hq, hqk, hat, hx, htk, eds_take, eds_drop, hl1, hl2, go_sem]) | (with_reducible refine gsplit_i (fun hg0 => ?_) (fun hg0 => ?_) <;> first | (with_reducible first | exact absurd hg0 Bool.false_ne_true | exact absurd hg0.symm Bool.false_ne_true) | (simp only [hg0, hq, hqk, hat, hx, htk, eds_take, eds_drop, hl1, hl2, go_sem])) | (with_reducible refine nilK_i ?_; intro bnil hnil; try simp only []) | (omega; done) | (intro hv; (try simp only [bls] at hv); (try simp only [bls]); omega) | (intro hg; (simp only [hg, Bool.true_and, true_and, implies_true]; try (intro hg2; simp only [hg2, Bool.not_false, Bool.not_true])); done)))
    all_goals first | omega | skip
    ·rw [if_pos ⟨hko, ed_ext hb.2⟩] at hins
     rw [hins] at hres
     exact hO _ (i + 1, out) ⟨by simp only; omega, hres, by simp only; omega⟩ (by (simp only [SubF, go_sem]; (try simp only [go_sem]); repeat' (first | exact True.intro | with_reducible refine And.intro ?_ ?_ | rfl | omega))) (by simp only; omega)
    ·rw [if_neg (fun h => by have h2 := h.2; rw [h2] at hb; omega)] at hins
     refine hO _ (i + 1, insE x out) ⟨by simp only; omega, hres, by simp only; omega⟩ ?_ (by simp only; omega)
     rw [hins, he]
     (simp only [SubF, go_sem]; (try simp only [go_sem]); repeat' (first | exact True.intro | with_reducible refine And.intro ?_ ?_ | rfl | omega))
   ·(simp only [go_sem] at hL ⊢)
    (repeat' (first | (with_reducible first | exact True.intro | refine And.intro ?_ ?_ | refine awp_block ?_ | ((first | refine awp_seq1 6 [] ?_ | refine awp_seq2 6 [] ?_ | refine awp_seq3 6 [] ?_ | refine awp_seq4 6 [] ?_ | refine awp_seq 6 [] ?_); intro K hK)) | ((with_reducible first | refine awp_reg ?_ | refine awp_exit ?_ | refine awp_skip ?_ | refine likeK_i ?_ | refine otWR_i ?_ | refine rP Ty_ok mixed 9 [0, 1, 2, 4, 5, 9, 10] [.mid [pe 6, pe 7, ⟨3, 0, false, true, false, [], []⟩, ⟨11, 0, false, true, false, [], []⟩] 0, .one 8, .one 12, .one 13, .one 14] ?_ | refine rP Ty_ok mixed 6 [0, 1] [.mid [pe 2, pe 3, pe 4, pe 5, pe 6, pe 7, pe 8, pe 9, pe 10, pe 11, pe 12] 0, .one 13, .one 14] ?_ | refine rD (id := 8) ?_); simp only [hq, hqk, hat, hx, htk, eds_take, eds_drop, hl1, hl2, go_sem]) | (with_reducible refine awp_ret ?_; simp only [retF, retM, retL, resV, resW, retO, resAV, AV.bor, D.bor, D.bor1, D.bor0, AV.flatOwn, D.flatOwn, D.flat, AV.tagged, D.tagged, AObj.plain, hq, hqk, hat, hx, htk, eds_take, eds_drop, hl1, hl2, go_sem]) | ((with_reducible refine awp_cond' ?_ ?_ (fun hb => ?_) (fun hb => ?_)); (simp only [hq, hqk, hat, hx, htk, eds_take, eds_drop, hl1, hl2, go_sem]); (simp only [hq, hqk, hat, hx, htk, eds_take, eds_drop, hl1, hl2, go_sem]); all_goals (simp only [hq, hqk, hat, hx, htk, eds_take, eds_drop, hl1, hl2, go_sem] at hb; try simp only [bls] at hb)) | ((iterate 6 try ((fail_if_success with_reducible refine hK _ ?_ ?_ ?_); clear hK K)); with_reducible refine hK _ ?_ ?_ ?_; rotate_left; (focus (simp only [hq, hqk, hat, hx, htk, eds_take, eds_drop, hl1, hl2, go_sem]; exact rfl)); clear hK K) | ((first | (with_reducible first | refine cA c1 ?_ | refine cD c1 ?_ | refine cO c1 ?_ | refine cR c1 ?_ | refine cG (fun hg => c1) ?_ | refine cH (fun hg => c1) ?_ | refine cM (fun hg => c1) ?_) | (guard_target = CallAt _ _ _ _ _ _ _ _ _ _; refine cA c1 ?_) | (guard_target = DCallAt _ _ _ _ _ _ _ _; refine cD c1 ?_) | (guard_target = GCallAt _ _ _ _ _ _ _ _ _ _ _; refine cG (fun hg => c1) ?_)); simp only [hq, hqk, hat, hx, htk, eds_take, eds_drop, hl1, hl2, go_sem]) | (with_reducible refine gsplit_i (fun hg0 => ?_) (fun hg0 => ?_) <;> first | (with_reducible first | exact absurd hg0 Bool.false_ne_true | exact absurd hg0.symm Bool.false_ne_true) | (simp only [hg0, hq, hqk, hat, hx, htk, eds_take, eds_drop, hl1, hl2, go_sem])) | (with_reducible refine nilK_i ?_; intro bnil hnil; try simp only []) | (omega; done) | (intro hv; (try simp only [bls] at hv); (try simp only [bls]); omega) | (intro hg; (simp only [hg, Bool.true_and, true_and, implies_true]; try (intro hg2; simp only [hg2, Bool.not_false, Bool.not_true])); done)))
    all_goals first | omega | skip
    rw [if_neg (fun h => hko h.1)] at hins
    refine hO _ (i + 1, insE x out) ⟨by simp only; omega, hres, by simp only; omega⟩ ?_ (by simp only; omega)
    rw [hins, he]
    (simp only [SubF, go_sem]; (try simp only [go_sem]); repeat' (first | exact True.intro | with_reducible refine And.intro ?_ ?_ | rfl | omega))
 ·rw [drop_end l i (by omega)] at hres
  simp only [List.foldl_nil] at hres
  (simp only [go_sem] at hL ⊢)
  (repeat' (first | (with_reducible first | exact True.intro | refine And.intro ?_ ?_ | refine awp_block ?_ | ((first | refine awp_seq1 6 [] ?_ | refine awp_seq2 6 [] ?_ | refine awp_seq3 6 [] ?_ | refine awp_seq4 6 [] ?_ | refine awp_seq 6 [] ?_); intro K hK)) | ((with_reducible first | refine awp_reg ?_ | refine awp_exit ?_ | refine awp_skip ?_ | refine likeK_i ?_ | refine otWR_i ?_ | refine rP Ty_ok mixed 9 [0, 1, 2, 4, 5, 9, 10] [.mid [pe 6, pe 7, ⟨3, 0, false, true, false, [], []⟩, ⟨11, 0, false, true, false, [], []⟩] 0, .one 8, .one 12, .one 13, .one 14] ?_ | refine rP Ty_ok mixed 6 [0, 1] [.mid [pe 2, pe 3, pe 4, pe 5, pe 6, pe 7, pe 8, pe 9, pe 10, pe 11, pe 12] 0, .one 13, .one 14] ?_ | refine rD (id := 8) ?_); simp only [hq, go_sem]) | (with_reducible refine awp_ret ?_; simp only [retF, retM, retL, resV, resW, retO, resAV, AV.bor, D.bor, D.bor1, D.bor0, AV.flatOwn, D.flatOwn, D.flat, AV.tagged, D.tagged, AObj.plain, hq, go_sem]) | ((with_reducible refine awp_cond' ?_ ?_ (fun hb => ?_) (fun hb => ?_)); (simp only [hq, go_sem]); (simp only [hq, go_sem]); all_goals (simp only [hq, go_sem] at hb; try simp only [bls] at hb)) | ((iterate 6 try ((fail_if_success with_reducible refine hK _ ?_ ?_ ?_); clear hK K)); with_reducible refine hK _ ?_ ?_ ?_; rotate_left; (focus (simp only [hq, go_sem]; exact rfl)); clear hK K) | (with_reducible refine gsplit_i (fun hg0 => ?_) (fun hg0 => ?_) <;> first | (with_reducible first | exact absurd hg0 Bool.false_ne_true | exact absurd hg0.symm Bool.false_ne_true) | (simp only [hg0, hq, go_sem])) | (with_reducible refine nilK_i ?_; intro bnil hnil; try simp only []) | (omega; done) | (intro hv; (try simp only [bls] at hv); (try simp only [bls]); omega) | (intro hg; (simp only [hg, Bool.true_and, true_and, implies_true]; try (intro hg2; simp only [hg2, Bool.not_false, Bool.not_true])); done)))
  all_goals first | omega | skip
  rw [hres]
set_option maxHeartbeats 16000000 in
theorem refReverse_c (a : NA) (hf : a.Fits) : ACalls Tryd.prog 42 [.agg a.d] (.agg (revNA a).d) [] := by
 obtain ⟨f1, f2, f3, f4⟩ := hf
 have hR : revNA a = ⟨a.alpha, a.states, a.marked, a.init, sortE (revE a.edges)⟩ := rfl
 rw [hR]
 have c1 := sorted_c (revE a.edges) (by rw [revE_length]; omega)
 (refine ACalls.of_body Ty_ok mixed Tryd.func42 rfl (by kernel_rfl) Tryd.ntmps42 (by simp) (congrArg Array.toList Tryd.results42) ?_)
 simp only [slotsOf, NA.d]
 (repeat' (first | (with_reducible first | exact True.intro | refine And.intro ?_ ?_ | refine awp_block ?_ | ((first | refine awp_seq1 7 [] ?_ | refine awp_seq2 7 [] ?_ | refine awp_seq3 7 [] ?_ | refine awp_seq4 7 [] ?_ | refine awp_seq 7 [] ?_); intro K hK)) | ((with_reducible first | refine awp_reg ?_ | refine awp_exit ?_ | refine awp_skip ?_ | refine likeK_i ?_ | refine otWR_i ?_); simp only [go_sem]) | (with_reducible refine awp_ret ?_; simp only [retF, retM, retL, resV, resW, retO, resAV, AV.bor, D.bor, D.bor1, D.bor0, AV.flatOwn, D.flatOwn, D.flat, AV.tagged, D.tagged, AObj.plain, go_sem]) | ((with_reducible refine awp_cond' ?_ ?_ (fun hb => ?_) (fun hb => ?_)); (simp only [go_sem]); (simp only [go_sem]); all_goals (simp only [go_sem] at hb; try simp only [bls] at hb)) | ((iterate 6 try ((fail_if_success with_reducible refine hK _ ?_ ?_ ?_); clear hK K)); with_reducible refine hK _ ?_ ?_ ?_; rotate_left; (focus (simp only [go_sem]; exact rfl)); clear hK K) | (with_reducible refine gsplit_i (fun hg0 => ?_) (fun hg0 => ?_) <;> first | (with_reducible first | exact absurd hg0 Bool.false_ne_true | exact absurd hg0.symm Bool.false_ne_true) | (simp only [hg0, go_sem])) | (with_reducible refine nilK_i ?_; intro bnil hnil; try simp only []) | (omega; done) | (intro hv; (try simp only [bls] at hv); (try simp only [bls]); omega) | (intro hg; (simp only [hg, Bool.true_and, true_and, implies_true]; try (intro hg2; simp only [hg2, Bool.not_false, Bool.not_true])); done)))
 all_goals first | omega | skip
 refine awp_loop _ (by simp only [go_sem]; rfl) Nat (fun k => k ≤ a.edges.length) (fun k => [(4, .one (.own 3)), (5, .one (.int .i64 k))])
  (fun k _ => [.var 29 [.list (ints a.alpha), .int .i64 a.states, .list (ints a.init), .list (ints a.marked), .list (edD a.edges)], .var 29 [.nil, .int .i64 0, .nil, .nil, .nil], .var 29 [.list (ints a.alpha), .int .i64 a.states, .list (ints a.marked), .list (ints a.init), .nil], .row 43 3 (edD (revE (a.edges.take k)))]) (fun k => a.edges.length - k) 0 (by omega) ?_ ?_
 ·rw [show edD (revE (a.edges.take 0)) = [] from rfl]
  (simp only [SubF, go_sem]; (try simp only [go_sem]); repeat' (first | exact True.intro | with_reducible refine And.intro ?_ ?_ | rfl | omega))
 rintro k hk L hL
 have hq : ((k : Nat) : Int).toNat = k := by omega
 have hlen : (revE (a.edges.take k)).length = k := by rw [revE_length, List.length_take]; omega
 by_cases hlt : k < a.edges.length
 ·have hs := revE_succ a.edges k hlt
  (simp only [go_sem] at hL ⊢)
  (repeat' (first | (with_reducible first | exact True.intro | refine And.intro ?_ ?_ | refine awp_block ?_ | ((first | refine awp_seq1 7 [] ?_ | refine awp_seq2 7 [] ?_ | refine awp_seq3 7 [] ?_ | refine awp_seq4 7 [] ?_ | refine awp_seq 7 [] ?_); intro K hK)) | ((with_reducible first | refine awp_reg ?_ | refine awp_exit ?_ | refine awp_skip ?_ | refine likeK_i ?_ | refine otWR_i ?_); simp only [hq, eds_snoc, go_sem]) | (with_reducible refine awp_ret ?_; simp only [retF, retM, retL, resV, resW, retO, resAV, AV.bor, D.bor, D.bor1, D.bor0, AV.flatOwn, D.flatOwn, D.flat, AV.tagged, D.tagged, AObj.plain, hq, eds_snoc, go_sem]) | ((with_reducible refine awp_cond' ?_ ?_ (fun hb => ?_) (fun hb => ?_)); (simp only [hq, eds_snoc, go_sem]); (simp only [hq, eds_snoc, go_sem]); all_goals (simp only [hq, eds_snoc, go_sem] at hb; try simp only [bls] at hb)) | ((iterate 6 try ((fail_if_success with_reducible refine hK _ ?_ ?_ ?_); clear hK K)); with_reducible refine hK _ ?_ ?_ ?_; rotate_left; (focus (simp only [hq, eds_snoc, go_sem]; exact rfl)); clear hK K) | (with_reducible refine gsplit_i (fun hg0 => ?_) (fun hg0 => ?_) <;> first | (with_reducible first | exact absurd hg0 Bool.false_ne_true | exact absurd hg0.symm Bool.false_ne_true) | (simp only [hg0, hq, eds_snoc, go_sem])) | (with_reducible refine nilK_i ?_; intro bnil hnil; try simp only []) | (omega; done) | (intro hv; (try simp only [bls] at hv); (try simp only [bls]); omega) | (intro hg; (simp only [hg, Bool.true_and, true_and, implies_true]; try (intro hg2; simp only [hg2, Bool.not_false, Bool.not_true])); done)))
  all_goals first | omega | skip
  rw [← hs]
  exact hL _ (k + 1) (by omega) (by (simp only [SubF, go_sem]; (try simp only [go_sem]); repeat' (first | exact True.intro | with_reducible refine And.intro ?_ ?_ | rfl | omega))) (by omega)
 obtain rfl : k = a.edges.length := by omega
 rw [List.take_length] at *
 (simp only [go_sem] at hL ⊢)
 (repeat' (first | (with_reducible first | exact True.intro | refine And.intro ?_ ?_ | refine awp_block ?_ | ((first | refine awp_seq1 7 [] ?_ | refine awp_seq2 7 [] ?_ | refine awp_seq3 7 [] ?_ | refine awp_seq4 7 [] ?_ | refine awp_seq 7 [] ?_); intro K hK)) | ((with_reducible first | refine awp_reg ?_ | refine awp_exit ?_ | refine awp_skip ?_ | refine likeK_i ?_ | refine otWR_i ?_); simp only [hq, go_sem]) | (with_reducible refine awp_ret ?_; simp only [retF, retM, retL, resV, resW, retO, resAV, AV.bor, D.bor, D.bor1, D.bor0, AV.flatOwn, D.flatOwn, D.flat, AV.tagged, D.tagged, AObj.plain, hq, go_sem]) | ((with_reducible refine awp_cond' ?_ ?_ (fun hb => ?_) (fun hb => ?_)); (simp only [hq, go_sem]); (simp only [hq, go_sem]); all_goals (simp only [hq, go_sem] at hb; try simp only [bls] at hb)) | ((iterate 6 try ((fail_if_success with_reducible refine hK _ ?_ ?_ ?_); clear hK K)); with_reducible refine hK _ ?_ ?_ ?_; rotate_left; (focus (simp only [hq, go_sem]; exact rfl)); clear hK K) | (with_reducible refine gsplit_i (fun hg0 => ?_) (fun hg0 => ?_) <;> first | (with_reducible first | exact absurd hg0 Bool.false_ne_true | exact absurd hg0.symm Bool.false_ne_true) | (simp only [hg0, hq, go_sem])) | (with_reducible refine nilK_i ?_; intro bnil hnil; try simp only []) | (omega; done) | (intro hv; (try simp only [bls] at hv); (try simp only [bls]); omega) | (intro hg; (simp only [hg, Bool.true_and, true_and, implies_true]; try (intro hg2; simp only [hg2, Bool.not_false, Bool.not_true])); done)))
 all_goals first | omega | skip
 (refine MCallAt_i [3] [] (calls_toM c1) ?_ ?_; (focus (simp only [mside, handOk, go_sem]; (first | done | exact (by decide) | exact ⟨by decide, fun t ht => ht.elim⟩ | (refine ⟨by decide, ?_⟩; simp; done)))); simp only [go_sem])
 (repeat' (first | (with_reducible first | exact True.intro | refine And.intro ?_ ?_ | refine awp_block ?_ | ((first | refine awp_seq1 7 [] ?_ | refine awp_seq2 7 [] ?_ | refine awp_seq3 7 [] ?_ | refine awp_seq4 7 [] ?_ | refine awp_seq 7 [] ?_); intro K hK)) | ((with_reducible first | refine awp_reg ?_ | refine awp_exit ?_ | refine awp_skip ?_ | refine likeK_i ?_ | refine otWR_i ?_); simp only [go_sem]) | (with_reducible refine awp_ret ?_; simp only [retF, retM, retL, resV, resW, retO, resAV, AV.bor, D.bor, D.bor1, D.bor0, AV.flatOwn, D.flatOwn, D.flat, AV.tagged, D.tagged, AObj.plain, go_sem]) | ((with_reducible refine awp_cond' ?_ ?_ (fun hb => ?_) (fun hb => ?_)); (simp only [go_sem]); (simp only [go_sem]); all_goals (simp only [go_sem] at hb; try simp only [bls] at hb)) | ((iterate 6 try ((fail_if_success with_reducible refine hK _ ?_ ?_ ?_); clear hK K)); with_reducible refine hK _ ?_ ?_ ?_; rotate_left; (focus (simp only [go_sem]; exact rfl)); clear hK K) | (with_reducible refine gsplit_i (fun hg0 => ?_) (fun hg0 => ?_) <;> first | (with_reducible first | exact absurd hg0 Bool.false_ne_true | exact absurd hg0.symm Bool.false_ne_true) | (simp only [hg0, go_sem])) | (with_reducible refine nilK_i ?_; intro bnil hnil; try simp only []) | (omega; done) | (intro hv; (try simp only [bls] at hv); (try simp only [bls]); omega) | (intro hg; (simp only [hg, Bool.true_and, true_and, implies_true]; try (intro hg2; simp only [hg2, Bool.not_false, Bool.not_true])); done)))
 all_goals first | omega | skip
set_option maxHeartbeats 16000000 in
theorem refErase_c (a : NA) (ev : List Int) (hf : a.Fits) (ha : IncI a.alpha) (hev : IncI ev) (hel : ev.length ≤ 1000) : ACalls Tryd.prog 43 [.agg a.d, .one (.list (ints ev))] (.agg (eraNA ev a).d) [] := by
 obtain ⟨f1, f2, f3, f4⟩ := hf
 have hR : eraNA ev a = ⟨minusB a.alpha ev, a.states, a.init, a.marked, sortE (eraE ev a.edges)⟩ := rfl
 rw [hR]
 have c1 := sorted_c (eraE ev a.edges) (by rw [eraE_length]; omega)
 have c2 := refMinus_c a.alpha ev (by omega) (by omega)
 rw [← minus_filter ha hev] at c2
 generalize minusB a.alpha ev = U at *
 (refine ACalls.of_body Ty_ok mixed Tryd.func43 rfl (by kernel_rfl) Tryd.ntmps43 (by simp) (congrArg Array.toList Tryd.results43) ?_)
 simp only [slotsOf, NA.d]
 (repeat' (first | (with_reducible first | exact True.intro | refine And.intro ?_ ?_ | refine awp_block ?_ | ((first | refine awp_seq1 9 [] ?_ | refine awp_seq2 9 [] ?_ | refine awp_seq3 9 [] ?_ | refine awp_seq4 9 [] ?_ | refine awp_seq 9 [] ?_); intro K hK)) | ((with_reducible first | refine awp_reg ?_ | refine awp_exit ?_ | refine awp_skip ?_ | refine likeK_i ?_ | refine otWR_i ?_ | refine rP Ty_ok mixed 1 [0, 2, 4, 6, 8] [.mid [pe 1, ⟨3, 0, true, false, false, [], []⟩, ⟨5, 1, false, false, false, [0], []⟩, ⟨7, 1, false, false, false, [0], []⟩, ⟨9, 1, false, false, false, [0], []⟩, ⟨10, 1, false, false, false, [], []⟩, ⟨11, 1, true, false, false, [0], []⟩] 2, .one 12] ?_); simp only [go_sem]) | (with_reducible refine awp_ret ?_; simp only [retF, retM, retL, resV, resW, retO, resAV, AV.bor, D.bor, D.bor1, D.bor0, AV.flatOwn, D.flatOwn, D.flat, AV.tagged, D.tagged, AObj.plain, go_sem]) | ((with_reducible refine awp_cond' ?_ ?_ (fun hb => ?_) (fun hb => ?_)); (simp only [go_sem]); (simp only [go_sem]); all_goals (simp only [go_sem] at hb; try simp only [bls] at hb)) | ((iterate 6 try ((fail_if_success with_reducible refine hK _ ?_ ?_ ?_); clear hK K)); with_reducible refine hK _ ?_ ?_ ?_; rotate_left; (focus (simp only [go_sem]; exact rfl)); clear hK K) | ((first | (with_reducible first | refine cA c2 ?_ | refine cD c2 ?_ | refine cO c2 ?_ | refine cR c2 ?_ | refine cG (fun hg => c2) ?_ | refine cH (fun hg => c2) ?_ | refine cM (fun hg => c2) ?_) | (guard_target = CallAt _ _ _ _ _ _ _ _ _ _; refine cA c2 ?_) | (guard_target = DCallAt _ _ _ _ _ _ _ _; refine cD c2 ?_) | (guard_target = GCallAt _ _ _ _ _ _ _ _ _ _ _; refine cG (fun hg => c2) ?_)); simp only [go_sem]) | (with_reducible refine gsplit_i (fun hg0 => ?_) (fun hg0 => ?_) <;> first | (with_reducible first | exact absurd hg0 Bool.false_ne_true | exact absurd hg0.symm Bool.false_ne_true) | (simp only [hg0, go_sem])) | (with_reducible refine nilK_i ?_; intro bnil hnil; try simp only []) | (omega; done) | (intro hv; (try simp only [bls] at hv); (try simp only [bls]); omega) | (intro hg; (simp only [hg, Bool.true_and, true_and, implies_true]; try (intro hg2; simp only [hg2, Bool.not_false, Bool.not_true])); done)))
 all_goals first | omega | skip
 refine awp_loop _ (by simp only [go_sem]; rfl) Nat (fun k => k ≤ a.edges.length) (fun k => [(6, .one (.own 4)), (7, .one (.int .i64 k))])
  (fun k _ => [.var 29 [.list (ints a.alpha), .int .i64 a.states, .list (ints a.init), .list (ints a.marked), .list (edD a.edges)], .var 29 [.nil, .int .i64 0, .nil, .nil, .nil], .gone, .var 29 [.list (ints U), .int .i64 a.states, .list (ints a.init), .list (ints a.marked), .nil], .row 43 3 (edD (eraE ev (a.edges.take k)))]) (fun k => a.edges.length - k) 0 (by omega) ?_ ?_
 ·rw [show edD (eraE ev (a.edges.take 0)) = [] from rfl]
  (simp only [SubF, go_sem]; (try simp only [go_sem]); repeat' (first | exact True.intro | with_reducible refine And.intro ?_ ?_ | rfl | omega))
 rintro k hk L hL
 have hq : ((k : Nat) : Int).toNat = k := by omega
 have hlen : (eraE ev (a.edges.take k)).length = k := by rw [eraE_length, List.length_take]; omega
 by_cases hlt : k < a.edges.length
 ·have hs := eraE_succ ev a.edges k hlt
  have c6 := refContains_c ev (a.edges.getD k Ed.no).ev (by omega)
  (simp only [go_sem] at hL ⊢)
  (repeat' (first | (with_reducible first | exact True.intro | refine And.intro ?_ ?_ | refine awp_block ?_ | ((first | refine awp_seq1 9 [] ?_ | refine awp_seq2 9 [] ?_ | refine awp_seq3 9 [] ?_ | refine awp_seq4 9 [] ?_ | refine awp_seq 9 [] ?_); intro K hK)) | ((with_reducible first | refine awp_reg ?_ | refine awp_exit ?_ | refine awp_skip ?_ | refine likeK_i ?_ | refine otWR_i ?_ | refine rP Ty_ok mixed 1 [0, 2, 4, 6, 8] [.mid [pe 1, ⟨3, 0, true, false, false, [], []⟩, ⟨5, 1, false, false, false, [0], []⟩, ⟨7, 1, false, false, false, [0], []⟩, ⟨9, 1, false, false, false, [0], []⟩, ⟨10, 1, false, false, false, [], []⟩, ⟨11, 1, true, false, false, [0], []⟩] 2, .one 12] ?_); simp only [hq, eds_snoc, go_sem]) | (with_reducible refine awp_ret ?_; simp only [retF, retM, retL, resV, resW, retO, resAV, AV.bor, D.bor, D.bor1, D.bor0, AV.flatOwn, D.flatOwn, D.flat, AV.tagged, D.tagged, AObj.plain, hq, eds_snoc, go_sem]) | ((with_reducible refine awp_cond' ?_ ?_ (fun hb => ?_) (fun hb => ?_)); (simp only [hq, eds_snoc, go_sem]); (simp only [hq, eds_snoc, go_sem]); all_goals (simp only [hq, eds_snoc, go_sem] at hb; try simp only [bls] at hb)) | ((iterate 6 try ((fail_if_success with_reducible refine hK _ ?_ ?_ ?_); clear hK K)); with_reducible refine hK _ ?_ ?_ ?_; rotate_left; (focus (simp only [hq, eds_snoc, go_sem]; exact rfl)); clear hK K) | ((first | (with_reducible first | refine cA c6 ?_ | refine cD c6 ?_ | refine cO c6 ?_ | refine cR c6 ?_ | refine cG (fun hg => c6) ?_ | refine cH (fun hg => c6) ?_ | refine cM (fun hg => c6) ?_) | (guard_target = CallAt _ _ _ _ _ _ _ _ _ _; refine cA c6 ?_) | (guard_target = DCallAt _ _ _ _ _ _ _ _; refine cD c6 ?_) | (guard_target = GCallAt _ _ _ _ _ _ _ _ _ _ _; refine cG (fun hg => c6) ?_)); simp only [hq, eds_snoc, go_sem]) | (with_reducible refine gsplit_i (fun hg0 => ?_) (fun hg0 => ?_) <;> first | (with_reducible first | exact absurd hg0 Bool.false_ne_true | exact absurd hg0.symm Bool.false_ne_true) | (simp only [hg0, hq, eds_snoc, go_sem])) | (with_reducible refine nilK_i ?_; intro bnil hnil; try simp only []) | (omega; done) | (intro hv; (try simp only [bls] at hv); (try simp only [bls]); omega) | (intro hg; (simp only [hg, Bool.true_and, true_and, implies_true]; try (intro hg2; simp only [hg2, Bool.not_false, Bool.not_true])); done)))
  all_goals first | omega | skip
  ·rw [if_pos hb] at hs
   rw [← hs]
   exact hL _ (k + 1) (by omega) (by (simp only [SubF, go_sem]; (try simp only [go_sem]); repeat' (first | exact True.intro | with_reducible refine And.intro ?_ ?_ | rfl | omega))) (by omega)
  ·rw [if_neg hb] at hs
   rw [← hs]
   exact hL _ (k + 1) (by omega) (by (simp only [SubF, go_sem]; (try simp only [go_sem]); repeat' (first | exact True.intro | with_reducible refine And.intro ?_ ?_ | rfl | omega))) (by omega)
 obtain rfl : k = a.edges.length := by omega
 rw [List.take_length] at *
 (simp only [go_sem] at hL ⊢)
 (repeat' (first | (with_reducible first | exact True.intro | refine And.intro ?_ ?_ | refine awp_block ?_ | ((first | refine awp_seq1 9 [] ?_ | refine awp_seq2 9 [] ?_ | refine awp_seq3 9 [] ?_ | refine awp_seq4 9 [] ?_ | refine awp_seq 9 [] ?_); intro K hK)) | ((with_reducible first | refine awp_reg ?_ | refine awp_exit ?_ | refine awp_skip ?_ | refine likeK_i ?_ | refine otWR_i ?_ | refine rP Ty_ok mixed 1 [0, 2, 4, 6, 8] [.mid [pe 1, ⟨3, 0, true, false, false, [], []⟩, ⟨5, 1, false, false, false, [0], []⟩, ⟨7, 1, false, false, false, [0], []⟩, ⟨9, 1, false, false, false, [0], []⟩, ⟨10, 1, false, false, false, [], []⟩, ⟨11, 1, true, false, false, [0], []⟩] 2, .one 12] ?_); simp only [hq, go_sem]) | (with_reducible refine awp_ret ?_; simp only [retF, retM, retL, resV, resW, retO, resAV, AV.bor, D.bor, D.bor1, D.bor0, AV.flatOwn, D.flatOwn, D.flat, AV.tagged, D.tagged, AObj.plain, hq, go_sem]) | ((with_reducible refine awp_cond' ?_ ?_ (fun hb => ?_) (fun hb => ?_)); (simp only [hq, go_sem]); (simp only [hq, go_sem]); all_goals (simp only [hq, go_sem] at hb; try simp only [bls] at hb)) | ((iterate 6 try ((fail_if_success with_reducible refine hK _ ?_ ?_ ?_); clear hK K)); with_reducible refine hK _ ?_ ?_ ?_; rotate_left; (focus (simp only [hq, go_sem]; exact rfl)); clear hK K) | (with_reducible refine gsplit_i (fun hg0 => ?_) (fun hg0 => ?_) <;> first | (with_reducible first | exact absurd hg0 Bool.false_ne_true | exact absurd hg0.symm Bool.false_ne_true) | (simp only [hg0, hq, go_sem])) | (with_reducible refine nilK_i ?_; intro bnil hnil; try simp only []) | (omega; done) | (intro hv; (try simp only [bls] at hv); (try simp only [bls]); omega) | (intro hg; (simp only [hg, Bool.true_and, true_and, implies_true]; try (intro hg2; simp only [hg2, Bool.not_false, Bool.not_true])); done)))
 all_goals first | omega | skip
 (refine MCallAt_i [4] [] (calls_toM c1) ?_ ?_; (focus (simp only [mside, handOk, go_sem]; (first | done | exact (by decide) | exact ⟨by decide, fun t ht => ht.elim⟩ | (refine ⟨by decide, ?_⟩; simp; done)))); simp only [go_sem])
 (repeat' (first | (with_reducible first | exact True.intro | refine And.intro ?_ ?_ | refine awp_block ?_ | ((first | refine awp_seq1 9 [] ?_ | refine awp_seq2 9 [] ?_ | refine awp_seq3 9 [] ?_ | refine awp_seq4 9 [] ?_ | refine awp_seq 9 [] ?_); intro K hK)) | ((with_reducible first | refine awp_reg ?_ | refine awp_exit ?_ | refine awp_skip ?_ | refine likeK_i ?_ | refine otWR_i ?_ | refine rP Ty_ok mixed 1 [0, 2, 4, 6, 8] [.mid [pe 1, ⟨3, 0, true, false, false, [], []⟩, ⟨5, 1, false, false, false, [0], []⟩, ⟨7, 1, false, false, false, [0], []⟩, ⟨9, 1, false, false, false, [0], []⟩, ⟨10, 1, false, false, false, [], []⟩, ⟨11, 1, true, false, false, [0], []⟩] 2, .one 12] ?_); simp only [go_sem]) | (with_reducible refine awp_ret ?_; simp only [retF, retM, retL, resV, resW, retO, resAV, AV.bor, D.bor, D.bor1, D.bor0, AV.flatOwn, D.flatOwn, D.flat, AV.tagged, D.tagged, AObj.plain, go_sem]) | ((with_reducible refine awp_cond' ?_ ?_ (fun hb => ?_) (fun hb => ?_)); (simp only [go_sem]); (simp only [go_sem]); all_goals (simp only [go_sem] at hb; try simp only [bls] at hb)) | ((iterate 6 try ((fail_if_success with_reducible refine hK _ ?_ ?_ ?_); clear hK K)); with_reducible refine hK _ ?_ ?_ ?_; rotate_left; (focus (simp only [go_sem]; exact rfl)); clear hK K) | (with_reducible refine gsplit_i (fun hg0 => ?_) (fun hg0 => ?_) <;> first | (with_reducible first | exact absurd hg0 Bool.false_ne_true | exact absurd hg0.symm Bool.false_ne_true) | (simp only [hg0, go_sem])) | (with_reducible refine nilK_i ?_; intro bnil hnil; try simp only []) | (omega; done) | (intro hv; (try simp only [bls] at hv); (try simp only [bls]); omega) | (intro hg; (simp only [hg, Bool.true_and, true_and, implies_true]; try (intro hg2; simp only [hg2, Bool.not_false, Bool.not_true])); done)))
 all_goals first | omega | skip
set_option maxHeartbeats 4000000 in
theorem EraseE2_c (a : NA) (ev : List Int) (hf : a.Fits) (h : chkNA a = 0) (hel : ev.length ≤ 1000) (h2 : checkSet ev 32 ≠ 0) : ACalls Tryd.prog 40 [.agg a.d, .one (.list (ints ev))] (.tup [.agg NA.no.d, .one (.int .i64 (checkSet ev 32))]) [] := by
 have c := naCheck_c a hf
 rw [h] at c
 have c4 := CheckSet_c ev 32 (by omega)
 generalize checkSet ev 32 = e at *
 simp only [NA.d] at c
 (refine ACalls.of_body Ty_ok mixed Tryd.func40 rfl (by kernel_rfl) Tryd.ntmps40 (by simp) (congrArg Array.toList Tryd.results40) ?_)
 simp only [slotsOf, NA.d]
 (repeat' (first | (with_reducible first | exact True.intro | refine And.intro ?_ ?_ | refine awp_block ?_ | ((first | refine awp_seq1 11 [38, 37, 39] ?_ | refine awp_seq2 11 [38, 37, 39] ?_ | refine awp_seq3 11 [38, 37, 39] ?_ | refine awp_seq4 11 [38, 37, 39] ?_ | refine awp_seq 11 [38, 37, 39] ?_); intro K hK)) | ((with_reducible first | refine awp_reg ?_ | refine awp_exit ?_ | refine awp_skip ?_ | refine likeK_i ?_ | refine otWR_i ?_ | refine rP Ty_ok mixed 7 [0, 2, 4, 6, 9] [.mid [pe 1, ⟨3, 0, true, false, false, [], []⟩, ⟨5, 1, false, false, false, [0], []⟩, ⟨7, 1, false, false, false, [0], []⟩, ⟨8, 1, true, false, false, [], []⟩, ⟨10, 2, false, false, false, [1, 0], []⟩, ⟨11, 2, true, false, false, [], []⟩, ⟨12, 3, false, false, false, [], []⟩, ⟨13, 3, true, false, false, [2, 1, 0], []⟩] 4, .one 14] ?_); simp only [go_sem]) | (with_reducible refine awp_ret ?_; simp only [retF, retM, retL, resV, resW, retO, resAV, AV.bor, D.bor, D.bor1, D.bor0, AV.flatOwn, D.flatOwn, D.flat, AV.tagged, D.tagged, AObj.plain, go_sem]) | ((with_reducible refine awp_cond' ?_ ?_ (fun hb => ?_) (fun hb => ?_)); (simp only [go_sem]); (simp only [go_sem]); all_goals (simp only [go_sem] at hb; try simp only [bls] at hb)) | ((iterate 6 try ((fail_if_success with_reducible refine hK _ ?_ ?_ ?_); clear hK K)); with_reducible refine hK _ ?_ ?_ ?_; rotate_left; (focus (simp only [go_sem]; exact rfl)); clear hK K) | ((first | (with_reducible first | refine cA c ?_ | refine cA c4 ?_ | refine cD c ?_ | refine cD c4 ?_ | refine cO c ?_ | refine cO c4 ?_ | refine cR c ?_ | refine cR c4 ?_ | refine cG (fun hg => c) ?_ | refine cG (fun hg => c4) ?_ | refine cH (fun hg => c) ?_ | refine cH (fun hg => c4) ?_ | refine cM (fun hg => c) ?_ | refine cM (fun hg => c4) ?_) | (guard_target = CallAt _ _ _ _ _ _ _ _ _ _; first | refine cA c ?_ | refine cA c4 ?_) | (guard_target = DCallAt _ _ _ _ _ _ _ _; first | refine cD c ?_ | refine cD c4 ?_) | (guard_target = GCallAt _ _ _ _ _ _ _ _ _ _ _; first | refine cG (fun hg => c) ?_ | refine cG (fun hg => c4) ?_)); simp only [go_sem]) | (with_reducible refine gsplit_i (fun hg0 => ?_) (fun hg0 => ?_) <;> first | (with_reducible first | exact absurd hg0 Bool.false_ne_true | exact absurd hg0.symm Bool.false_ne_true) | (simp only [hg0, go_sem])) | (with_reducible refine nilK_i ?_; intro bnil hnil; try simp only []) | (omega; done) | (intro hv; (try simp only [bls] at hv); (try simp only [bls]); omega) | (intro hg; (simp only [hg, Bool.true_and, true_and, implies_true]; try (intro hg2; simp only [hg2, Bool.not_false, Bool.not_true])); done)))
 all_goals first | omega | skip
 all_goals rfl
end Go.Proofs.YtgagpbbnbonnlaaDoor
