/-
 Chapter 05: BinarySearchFunc over edges, next, spread, closure, step.
-/
import Derived.Test.YtgagpbbnbonnlaaDoorZA
set_option linter.unusedSimpArgs false
set_option linter.unusedVariables false
namespace Go.Proofs.YtgagpbbnbonnlaaDoor
open Go.Eng Go.RowKit
set_option maxHeartbeats 8000000 in
theorem BSearchE_c (es : List Ed) (t : Ed) (hn : es.length ≤ 1000000) (ho : EdInc es) (i : Nat) (hi : BsInv es t i i) :
  ACalls Tryd.prog 93 [.one (.list (edD es)), .agg t.d, .one (.clo 73 [])] (.tup [.one (.int .i64 i), .one (.bool (decide (i < es.length) && (cmpE (es.getD i Ed.no) t == 0)))]) [] := by
 have huniq : ∀ j, BsInv es t j j → j = i := fun j hj => by
  have h1 := hi.lo
  have h2 := hi.hi
  have h3 := hj.lo
  have h4 := hj.hi
  have h5 := hi.len
  have h6 := hj.len
  by_cases hlt : j < i
  ·exact absurd (h1 j hlt) (h4 j (Nat.le_refl _) (by omega))
  ·by_cases hgt : i < j
   ·exact absurd (h3 i hgt) (h2 i (Nat.le_refl _) (by omega))
   ·omega
 (refine ACalls.of_body Ty_ok mixed Tryd.func93 rfl (by kernel_rfl) Tryd.ntmps93 (by simp) (congrArg Array.toList Tryd.results93) ?_)
 simp only [slotsOf, Ed.d]
 (repeat' (first | (with_reducible first | exact True.intro | refine And.intro ?_ ?_ | refine awp_block ?_ | ((first | refine awp_seq1 12 [] ?_ | refine awp_seq2 12 [] ?_ | refine awp_seq3 12 [] ?_ | refine awp_seq4 12 [] ?_ | refine awp_seq 12 [] ?_); intro K hK)) | ((with_reducible first | refine awp_reg ?_ | refine awp_exit ?_ | refine awp_skip ?_ | refine likeK_i ?_ | refine otWR_i ?_ | refine rP Ty_ok mixed 5 [0, 1, 2] [.mid [pe 3, pe 4, pe 5] 0, .one 6, .one 7] ?_ | refine rP Ty_ok mixed 8 [0, 1, 2] [.mid [pe 3, pe 4, pe 5, pe 6, pe 7, pe 8, pe 9, pe 10] 0, .one 11, .mid [pe 12, pe 13, pe 14, pe 15] 0] ?_); simp only [go_sem]) | (with_reducible refine awp_ret ?_; simp only [retF, retM, retL, resV, resW, retO, resAV, AV.bor, D.bor, D.bor1, D.bor0, AV.flatOwn, D.flatOwn, D.flat, AV.tagged, D.tagged, AObj.plain, go_sem]) | ((with_reducible refine awp_cond' ?_ ?_ (fun hb => ?_) (fun hb => ?_)); (simp only [go_sem]); (simp only [go_sem]); all_goals (simp only [go_sem] at hb; try simp only [bls] at hb)) | ((iterate 6 try ((fail_if_success with_reducible refine hK _ ?_ ?_ ?_); clear hK K)); with_reducible refine hK _ ?_ ?_ ?_; rotate_left; (focus (simp only [go_sem]; exact rfl)); clear hK K) | (with_reducible refine gsplit_i (fun hg0 => ?_) (fun hg0 => ?_) <;> first | (with_reducible first | exact absurd hg0 Bool.false_ne_true | exact absurd hg0.symm Bool.false_ne_true) | (simp only [hg0, go_sem])) | (with_reducible refine nilK_i ?_; intro bnil hnil; try simp only []) | (omega; done) | (intro hv; (try simp only [bls] at hv); (try simp only [bls]); omega) | (intro hg; (simp only [hg, Bool.true_and, true_and, implies_true]; try (intro hg2; simp only [hg2, Bool.not_false, Bool.not_true])); done)))
 all_goals first | omega | skip
 refine awp_loop _ (by simp only [go_sem]; rfl) (Nat × Nat) (fun s => BsInv es t s.1 s.2) (fun s => [(9, .one (.int .i64 s.1)), (10, .one (.int .i64 s.2))]) (fun _ H => H) (fun s => s.2 - s.1) (0, es.length) (BsInv.zero es t) ?_ ?_
 ·(simp only [SubF, go_sem]; (try simp only [go_sem]); repeat' (first | exact True.intro | with_reducible refine And.intro ?_ ?_ | rfl | omega))
 rintro ⟨p, q⟩ hI L hL
 have hle := hI.le
 have hlen := hI.len
 simp only at hI hle hlen
 have e := mid_eq p q (by omega)
 by_cases hpq : p < q
 ·have hm : (p + q) / 2 < q := by omega
  have hm2 : p ≤ (p + q) / 2 := by omega
  have hme : (p + q) / 2 < es.length := by omega
  have c := compare_c (es.getD ((p + q) / 2) Ed.no) t
  have hat := eds_at hme [.int .i64 0, .int .i64 0, .int .i64 0]
  have hq : (((p + q) / 2 : Nat) : Int).toNat = (p + q) / 2 := by omega
  simp only [Ed.d] at c
  (simp only [go_sem] at hL ⊢)
  (repeat' (first | (with_reducible first | exact True.intro | refine And.intro ?_ ?_ | refine awp_block ?_ | ((first | refine awp_seq1 12 [] ?_ | refine awp_seq2 12 [] ?_ | refine awp_seq3 12 [] ?_ | refine awp_seq4 12 [] ?_ | refine awp_seq 12 [] ?_); intro K hK)) | ((with_reducible first | refine awp_reg ?_ | refine awp_exit ?_ | refine awp_skip ?_ | refine likeK_i ?_ | refine otWR_i ?_ | refine rP Ty_ok mixed 5 [0, 1, 2] [.mid [pe 3, pe 4, pe 5] 0, .one 6, .one 7] ?_ | refine rP Ty_ok mixed 8 [0, 1, 2] [.mid [pe 3, pe 4, pe 5, pe 6, pe 7, pe 8, pe 9, pe 10] 0, .one 11, .mid [pe 12, pe 13, pe 14, pe 15] 0] ?_); simp only [e, hq, go_sem]) | (with_reducible refine awp_ret ?_; simp only [retF, retM, retL, resV, resW, retO, resAV, AV.bor, D.bor, D.bor1, D.bor0, AV.flatOwn, D.flatOwn, D.flat, AV.tagged, D.tagged, AObj.plain, e, hq, go_sem]) | ((with_reducible refine awp_cond' ?_ ?_ (fun hb => ?_) (fun hb => ?_)); (simp only [e, hq, go_sem]); (simp only [e, hq, go_sem]); all_goals (simp only [e, hq, go_sem] at hb; try simp only [bls] at hb)) | ((iterate 6 try ((fail_if_success with_reducible refine hK _ ?_ ?_ ?_); clear hK K)); with_reducible refine hK _ ?_ ?_ ?_; rotate_left; (focus (simp only [e, hq, go_sem]; exact rfl)); clear hK K) | ((first | (with_reducible first | refine cA c ?_ | refine cD c ?_ | refine cO c ?_ | refine cR c ?_ | refine cG (fun hg => c) ?_ | refine cH (fun hg => c) ?_ | refine cM (fun hg => c) ?_) | (guard_target = CallAt _ _ _ _ _ _ _ _ _ _; refine cA c ?_) | (guard_target = DCallAt _ _ _ _ _ _ _ _; refine cD c ?_) | (guard_target = GCallAt _ _ _ _ _ _ _ _ _ _ _; refine cG (fun hg => c) ?_)); simp only [e, hq, go_sem]) | (with_reducible refine gsplit_i (fun hg0 => ?_) (fun hg0 => ?_) <;> first | (with_reducible first | exact absurd hg0 Bool.false_ne_true | exact absurd hg0.symm Bool.false_ne_true) | (simp only [hg0, e, hq, go_sem])) | (with_reducible refine nilK_i ?_; intro bnil hnil; try simp only []) | (omega; done) | (intro hv; (try simp only [bls] at hv); (try simp only [bls]); omega) | (intro hg; (simp only [hg, Bool.true_and, true_and, implies_true]; try (intro hg2; simp only [hg2, Bool.not_false, Bool.not_true])); done)))
  all_goals first | omega | skip
  ·exact hL _ ((p + q) / 2 + 1, q) (hI.up ho hm (cmpE_neg.1 hb)) (by (simp only [SubF, go_sem]; (try simp only [go_sem]); repeat' (first | exact True.intro | with_reducible refine And.intro ?_ ?_ | rfl | omega))) (by simp only; omega)
  ·exact hL _ (p, (p + q) / 2) (hI.down ho hm2 hm fun h => by have := cmpE_neg.2 h; simp only at this; omega) (by (simp only [SubF, go_sem]; (try simp only [go_sem]); repeat' (first | exact True.intro | with_reducible refine And.intro ?_ ?_ | rfl | omega))) (by simp only; omega)
 ·have hpq' : p = q := by omega
  subst hpq'
  have := huniq p hI
  subst this
  have c := compare_c (es.getD p Ed.no) t
  simp only [Ed.d] at c
  (simp only [go_sem] at hL ⊢)
  (repeat' (first | (with_reducible first | exact True.intro | refine And.intro ?_ ?_ | refine awp_block ?_ | ((first | refine awp_seq1 12 [] ?_ | refine awp_seq2 12 [] ?_ | refine awp_seq3 12 [] ?_ | refine awp_seq4 12 [] ?_ | refine awp_seq 12 [] ?_); intro K hK)) | ((with_reducible first | refine awp_reg ?_ | refine awp_exit ?_ | refine awp_skip ?_ | refine likeK_i ?_ | refine otWR_i ?_ | refine rP Ty_ok mixed 5 [0, 1, 2] [.mid [pe 3, pe 4, pe 5] 0, .one 6, .one 7] ?_ | refine rP Ty_ok mixed 8 [0, 1, 2] [.mid [pe 3, pe 4, pe 5, pe 6, pe 7, pe 8, pe 9, pe 10] 0, .one 11, .mid [pe 12, pe 13, pe 14, pe 15] 0] ?_); simp only [go_sem]) | (with_reducible refine awp_ret ?_; simp only [retF, retM, retL, resV, resW, retO, resAV, AV.bor, D.bor, D.bor1, D.bor0, AV.flatOwn, D.flatOwn, D.flat, AV.tagged, D.tagged, AObj.plain, go_sem]) | ((with_reducible refine awp_cond' ?_ ?_ (fun hb => ?_) (fun hb => ?_)); (simp only [go_sem]); (simp only [go_sem]); all_goals (simp only [go_sem] at hb; try simp only [bls] at hb)) | ((iterate 6 try ((fail_if_success with_reducible refine hK _ ?_ ?_ ?_); clear hK K)); with_reducible refine hK _ ?_ ?_ ?_; rotate_left; (focus (simp only [go_sem]; exact rfl)); clear hK K) | ((first | (with_reducible first | refine cA c ?_ | refine cD c ?_ | refine cO c ?_ | refine cR c ?_ | refine cG (fun hg => c) ?_ | refine cH (fun hg => c) ?_ | refine cM (fun hg => c) ?_) | (guard_target = CallAt _ _ _ _ _ _ _ _ _ _; refine cA c ?_) | (guard_target = DCallAt _ _ _ _ _ _ _ _; refine cD c ?_) | (guard_target = GCallAt _ _ _ _ _ _ _ _ _ _ _; refine cG (fun hg => c) ?_)); simp only [go_sem]) | (with_reducible refine gsplit_i (fun hg0 => ?_) (fun hg0 => ?_) <;> first | (with_reducible first | exact absurd hg0 Bool.false_ne_true | exact absurd hg0.symm Bool.false_ne_true) | (simp only [hg0, go_sem])) | (with_reducible refine nilK_i ?_; intro bnil hnil; try simp only []) | (omega; done) | (intro hv; (try simp only [bls] at hv); (try simp only [bls]); omega) | (intro hg; (simp only [hg, Bool.true_and, true_and, implies_true]; try (intro hg2; simp only [hg2, Bool.not_false, Bool.not_true])); done)))
  all_goals first | omega | skip
  simp only [Int.ofNat_lt]
theorem bs_exists {es : List Ed} {t : Ed} (ho : EdInc es) : ∀ (d i j : Nat), j - i ≤ d → BsInv es t i j → ∃ k, BsInv es t k k
 | 0, i, j, hd, h => ⟨i, by
   have := h.le
   obtain rfl : i = j := by omega
   exact h⟩
 | d + 1, i, j, hd, h => by
  by_cases hij : i < j
  ·by_cases hc : edLt (es.getD ((i + j) / 2) Ed.no) t
   ·exact bs_exists ho d _ j (by omega) (h.up ho (h := (i + j) / 2) (by omega) hc)
   ·exact bs_exists ho d i _ (by omega) (h.down ho (h := (i + j) / 2) (by omega) (by omega) hc)
  ·have := h.le
   obtain rfl : i = j := by omega
   exact ⟨i, h⟩
theorem map_take_succ (l : List Ed) (k : Nat) (hk : k < l.length) : (l.take (k + 1)).map Ed.dst = (l.take k).map Ed.dst ++ [(l.getD k Ed.no).dst] := by
 rw [take_succ_getD l k Ed.no hk, List.map_append]; rfl
structure NextOk (a : NA) : Prop where
 inc : EdInc a.edges
 dst : ∀ x ∈ a.edges, 0 ≤ x.dst
 len : a.edges.length ≤ 1000
set_option maxHeartbeats 8000000 in
theorem next_c (a : NA) (s e : Int) (ha : NextOk a) : ACalls Tryd.prog 79 [.agg a.d, .one (.int .i64 s), .one (.int .i64 e)] (.one (.own 0)) [.row 3 1 (ints (nextL a.edges s e))] := by
 obtain ⟨i, hi⟩ := bs_exists (t := ⟨s, e, -1⟩) ha.inc _ 0 a.edges.length (Nat.le_refl _) (BsInv.zero _ _)
 have hil := hi.len
 have hlen := ha.len
 have c1 := BSearchE_c a.edges ⟨s, e, -1⟩ (by omega) ha.inc i hi
 have hN := nextL_at ha.inc ha.dst hi
 have hll : (a.edges.drop i).length = a.edges.length - i := by simp
 simp only [Ed.d] at c1
 (refine ACalls.of_body_own Ty_ok mixed Tryd.func79 rfl (by kernel_rfl) Tryd.ntmps79 (by simp) (congrArg Array.toList Tryd.results79) ?_)
 simp only [slotsOf, NA.d]
 (repeat' (first | (with_reducible first | exact True.intro | refine And.intro ?_ ?_ | refine awp_block ?_ | ((first | refine awp_seq1 8 [25, 24, 11, 26, 9] ?_ | refine awp_seq2 8 [25, 24, 11, 26, 9] ?_ | refine awp_seq3 8 [25, 24, 11, 26, 9] ?_ | refine awp_seq4 8 [25, 24, 11, 26, 9] ?_ | refine awp_seq 8 [25, 24, 11, 26, 9] ?_); intro K hK)) | ((with_reducible first | refine awp_reg ?_ | refine awp_exit ?_ | refine awp_skip ?_ | refine likeK_i ?_ | refine otWR_i ?_); simp only [Int.toNat_natCast, eds_take, eds_drop, List.take_length, go_sem]) | (with_reducible refine awp_ret ?_; simp only [retF, retM, retL, resV, resW, retO, resAV, AV.bor, D.bor, D.bor1, D.bor0, AV.flatOwn, D.flatOwn, D.flat, AV.tagged, D.tagged, AObj.plain, Int.toNat_natCast, eds_take, eds_drop, List.take_length, go_sem]) | ((with_reducible refine awp_cond' ?_ ?_ (fun hb => ?_) (fun hb => ?_)); (simp only [Int.toNat_natCast, eds_take, eds_drop, List.take_length, go_sem]); (simp only [Int.toNat_natCast, eds_take, eds_drop, List.take_length, go_sem]); all_goals (simp only [Int.toNat_natCast, eds_take, eds_drop, List.take_length, go_sem] at hb; try simp only [bls] at hb)) | ((iterate 6 try ((fail_if_success with_reducible refine hK _ ?_ ?_ ?_); clear hK K)); with_reducible refine hK _ ?_ ?_ ?_; rotate_left; (focus (simp only [Int.toNat_natCast, eds_take, eds_drop, List.take_length, go_sem]; exact rfl)); clear hK K) | ((first | (with_reducible first | refine cA c1 ?_ | refine cD c1 ?_ | refine cO c1 ?_ | refine cR c1 ?_ | refine cG (fun hg => c1) ?_ | refine cH (fun hg => c1) ?_ | refine cM (fun hg => c1) ?_) | (guard_target = CallAt _ _ _ _ _ _ _ _ _ _; refine cA c1 ?_) | (guard_target = DCallAt _ _ _ _ _ _ _ _; refine cD c1 ?_) | (guard_target = GCallAt _ _ _ _ _ _ _ _ _ _ _; refine cG (fun hg => c1) ?_)); simp only [Int.toNat_natCast, eds_take, eds_drop, List.take_length, go_sem]) | (with_reducible refine gsplit_i (fun hg0 => ?_) (fun hg0 => ?_) <;> first | (with_reducible first | exact absurd hg0 Bool.false_ne_true | exact absurd hg0.symm Bool.false_ne_true) | (simp only [hg0, Int.toNat_natCast, eds_take, eds_drop, List.take_length, go_sem])) | (with_reducible refine nilK_i ?_; intro bnil hnil; try simp only []) | (omega; done) | (intro hv; (try simp only [bls] at hv); (try simp only [bls]); omega) | (intro hg; (simp only [hg, Bool.true_and, true_and, implies_true]; try (intro hg2; simp only [hg2, Bool.not_false, Bool.not_true])); done)))
 all_goals first | omega | skip
 generalize nextL a.edges s e = R at *
 generalize a.edges.drop i = l at *
 refine awp_loop _ (by simp only [go_sem]; rfl) Nat (fun k => k ≤ l.length ∧ R = (l.take k).map Ed.dst ++ ((l.drop k).takeWhile (isE s e)).map Ed.dst) (fun k => [(9, .one (.own 2)), (26, .one (.int .i64 k))])
  (fun k H => [.var 29 [.list (ints a.alpha), .int .i64 a.states, .list (ints a.init), .list (ints a.marked), .list (edD a.edges)], .row 3 1 [], .row 3 1 (ints ((l.take k).map Ed.dst))]) (fun k => l.length - k) 0 ⟨by omega, by simpa using hN⟩ ?_ ?_
 ·(simp only [SubF, go_sem]; (try simp only [go_sem]); repeat' (first | exact True.intro | with_reducible refine And.intro ?_ ?_ | rfl | omega))
 rintro k ⟨hk, hres⟩ L hL
 have hq : ((k : Nat) : Int).toNat = k := by omega
 have htl : ((l.take k).map Ed.dst).length = k := by simp; omega
 by_cases hlt : k < l.length
 ·have hat := eds_at hlt [.int .i64 0, .int .i64 0, .int .i64 0]
  have hs := map_take_succ l k hlt
  rw [drop_getD l k Ed.no hlt] at hres
  generalize l.getD k Ed.no = x at *
  (simp only [go_sem] at hL ⊢)
  (repeat' (first | (with_reducible first | exact True.intro | refine And.intro ?_ ?_ | refine awp_block ?_ | ((first | refine awp_seq1 8 [25, 24, 11, 26, 9] ?_ | refine awp_seq2 8 [25, 24, 11, 26, 9] ?_ | refine awp_seq3 8 [25, 24, 11, 26, 9] ?_ | refine awp_seq4 8 [25, 24, 11, 26, 9] ?_ | refine awp_seq 8 [25, 24, 11, 26, 9] ?_); intro K hK)) | ((with_reducible first | refine awp_reg ?_ | refine awp_exit ?_ | refine awp_skip ?_ | refine likeK_i ?_ | refine otWR_i ?_); simp only [hq, hat, htl, go_sem]) | (with_reducible refine awp_ret ?_; simp only [retF, retM, retL, resV, resW, retO, resAV, AV.bor, D.bor, D.bor1, D.bor0, AV.flatOwn, D.flatOwn, D.flat, AV.tagged, D.tagged, AObj.plain, hq, hat, htl, go_sem]) | ((with_reducible refine awp_cond' ?_ ?_ (fun hb => ?_) (fun hb => ?_)); (simp only [hq, hat, htl, go_sem]); (simp only [hq, hat, htl, go_sem]); all_goals (simp only [hq, hat, htl, go_sem] at hb; try simp only [bls] at hb)) | ((iterate 6 try ((fail_if_success with_reducible refine hK _ ?_ ?_ ?_); clear hK K)); with_reducible refine hK _ ?_ ?_ ?_; rotate_left; (focus (simp only [hq, hat, htl, go_sem]; exact rfl)); clear hK K) | (with_reducible refine gsplit_i (fun hg0 => ?_) (fun hg0 => ?_) <;> first | (with_reducible first | exact absurd hg0 Bool.false_ne_true | exact absurd hg0.symm Bool.false_ne_true) | (simp only [hg0, hq, hat, htl, go_sem])) | (with_reducible refine nilK_i ?_; intro bnil hnil; try simp only []) | (omega; done) | (intro hv; (try simp only [bls] at hv); (try simp only [bls]); omega) | (intro hg; (simp only [hg, Bool.true_and, true_and, implies_true]; try (intro hg2; simp only [hg2, Bool.not_false, Bool.not_true])); done)))
  all_goals first | omega | skip
  ·have hx : ¬ isE s e x = true := fun h => by
    simp only [isE, decide_eq_true_eq] at h
    exact hb.elim (fun h1 => h1 h.1) fun h1 => h1 h.2
   rw [List.takeWhile_cons_of_neg hx, List.map_nil, List.append_nil] at hres
   rw [hres]
  ·have hx : isE s e x = true := by simp only [isE, decide_eq_true_eq]; exact hb
   rw [List.takeWhile_cons_of_pos hx, List.map_cons] at hres
   simp only [ints_one, ints_append, ← hs]
   exact hL _ (k + 1) ⟨by omega, by rw [hres, hs]; simp⟩ (by (simp only [SubF, go_sem]; (try simp only [go_sem]); repeat' (first | exact True.intro | with_reducible refine And.intro ?_ ?_ | rfl | omega))) (by omega)
 ·(simp only [go_sem] at hL ⊢)
  (repeat' (first | (with_reducible first | exact True.intro | refine And.intro ?_ ?_ | refine awp_block ?_ | ((first | refine awp_seq1 8 [25, 24, 11, 26, 9] ?_ | refine awp_seq2 8 [25, 24, 11, 26, 9] ?_ | refine awp_seq3 8 [25, 24, 11, 26, 9] ?_ | refine awp_seq4 8 [25, 24, 11, 26, 9] ?_ | refine awp_seq 8 [25, 24, 11, 26, 9] ?_); intro K hK)) | ((with_reducible first | refine awp_reg ?_ | refine awp_exit ?_ | refine awp_skip ?_ | refine likeK_i ?_ | refine otWR_i ?_); simp only [htl, go_sem]) | (with_reducible refine awp_ret ?_; simp only [retF, retM, retL, resV, resW, retO, resAV, AV.bor, D.bor, D.bor1, D.bor0, AV.flatOwn, D.flatOwn, D.flat, AV.tagged, D.tagged, AObj.plain, htl, go_sem]) | ((with_reducible refine awp_cond' ?_ ?_ (fun hb => ?_) (fun hb => ?_)); (simp only [htl, go_sem]); (simp only [htl, go_sem]); all_goals (simp only [htl, go_sem] at hb; try simp only [bls] at hb)) | ((iterate 6 try ((fail_if_success with_reducible refine hK _ ?_ ?_ ?_); clear hK K)); with_reducible refine hK _ ?_ ?_ ?_; rotate_left; (focus (simp only [htl, go_sem]; exact rfl)); clear hK K) | (with_reducible refine gsplit_i (fun hg0 => ?_) (fun hg0 => ?_) <;> first | (with_reducible first | exact absurd hg0 Bool.false_ne_true | exact absurd hg0.symm Bool.false_ne_true) | (simp only [hg0, htl, go_sem])) | (with_reducible refine nilK_i ?_; intro bnil hnil; try simp only []) | (omega; done) | (intro hv; (try simp only [bls] at hv); (try simp only [bls]); omega) | (intro hg; (simp only [hg, Bool.true_and, true_and, implies_true]; try (intro hg2; simp only [hg2, Bool.not_false, Bool.not_true])); done)))
  all_goals first | omega | skip
  rw [hres, drop_end l k (by omega)]
  simp
end Go.Proofs.YtgagpbbnbonnlaaDoor
