/-
 Chapter 05: the reference's Determinize.
-/
import Derived.Test.YtgagpbbnbonnlaaDoorZX
import Derived.Test.YtgagpbbnbonnlaaDoorZP
set_option linter.unusedSimpArgs false
set_option linter.unusedVariables false
namespace Go.Proofs.YtgagpbbnbonnlaaDoor
open Go.Eng Go.RowKit
theorem words_pure (l : List (List Int)) : ((wordsD l).all fun r => r.all D.pure) = true := by
 simp only [wordsD, List.all_map, List.all_eq_true]
 intro x _; rfl
def fndI (s : List Int) (l : List (List Int)) : Int := match fndS s 0 l with | some k => (k : Int) | none => -1
theorem fndS_drop {s : List Int} : ∀ (l : List (List Int)) (i : Nat), i < l.length → fndS s i (l.drop i) = if l.getD i [] = s then some i else fndS s (i + 1) (l.drop (i + 1)) := fun l i h => by
 rw [drop_getD l i [] h, fndS]
set_option maxHeartbeats 4000000 in
theorem find_c (l : List (List Int)) (s : List Int) (hl : l.length ≤ 1000000) (hs : ∀ x ∈ l, x.length ≤ 1000000) : ACalls Tryd.prog 55 [.one (.list (wordsD l)), .one (.list (ints s))] (.one (.int .i64 (fndI s l))) [] := by
 have hR : fndI s l = match fndS s 0 l with | some k => (k : Int) | none => -1 := rfl
 generalize fndI s l = R at *
 (refine ACalls.of_body Ty_ok mixed Tryd.func55 rfl (by kernel_rfl) Tryd.ntmps55 (by simp) (congrArg Array.toList Tryd.results55) ?_)
 simp only [slotsOf]
 (repeat' (first | (with_reducible first | exact True.intro | refine And.intro ?_ ?_ | refine awp_block ?_ | ((first | refine awp_seq1 6 [] ?_ | refine awp_seq2 6 [] ?_ | refine awp_seq3 6 [] ?_ | refine awp_seq4 6 [] ?_ | refine awp_seq 6 [] ?_); intro K hK)) | ((with_reducible first | refine awp_reg ?_ | refine awp_exit ?_ | refine awp_skip ?_ | refine likeK_i ?_ | refine otWR_i ?_); simp only [go_sem]) | (with_reducible refine awp_ret ?_; simp only [retF, retM, retL, resV, resW, retO, resAV, AV.bor, D.bor, D.bor1, D.bor0, AV.flatOwn, D.flatOwn, D.flat, AV.tagged, D.tagged, AObj.plain, go_sem]) | ((with_reducible refine awp_cond' ?_ ?_ (fun hb => ?_) (fun hb => ?_)); (simp only [go_sem]); (simp only [go_sem]); all_goals (simp only [go_sem] at hb; try simp only [bls] at hb)) | ((iterate 6 try ((fail_if_success with_reducible refine hK _ ?_ ?_ ?_); clear hK K)); with_reducible refine hK _ ?_ ?_ ?_; rotate_left; (focus (simp only [go_sem]; exact rfl)); clear hK K) | (with_reducible refine gsplit_i (fun hg0 => ?_) (fun hg0 => ?_) <;> first | (with_reducible first | exact absurd hg0 Bool.false_ne_true | exact absurd hg0.symm Bool.false_ne_true) | (simp only [hg0, go_sem])) | (with_reducible refine nilK_i ?_; intro bnil hnil; try simp only []) | (omega; done) | (intro hv; (try simp only [bls] at hv); (try simp only [bls]); omega) | (intro hg; (simp only [hg, Bool.true_and, true_and, implies_true]; try (intro hg2; simp only [hg2, Bool.not_false, Bool.not_true])); done)))
 refine awp_loop _ (by simp only [go_sem]; rfl) Nat (fun k => k ≤ l.length ∧ fndS s 0 l = fndS s k (l.drop k)) (fun k => [(5, .one (.int .i64 k))]) (fun _ H => H) (fun k => l.length - k) 0 ⟨by omega, rfl⟩ ?_ ?_
 ·(simp only [SubF, go_sem]; (try simp only [go_sem]); repeat' (first | exact True.intro | with_reducible refine And.intro ?_ ?_ | rfl | omega))
 rintro k ⟨hk, hres⟩ L hL
 have hq : ((k : Nat) : Int).toNat = k := by omega
 by_cases hlt : k < l.length
 ·have hw := words_at (l := l) hlt [.nil]
  have hst := fndS_drop (s := s) l k hlt
  rw [← hres] at hst
  have c := Same_c (l.getD k []) s (by have := hs _ (getD_mem l k [] hlt); omega)
  generalize l.getD k [] = x at *
  (simp only [go_sem] at hL ⊢)
  (repeat' (first | (with_reducible first | exact True.intro | refine And.intro ?_ ?_ | refine awp_block ?_ | ((first | refine awp_seq1 6 [] ?_ | refine awp_seq2 6 [] ?_ | refine awp_seq3 6 [] ?_ | refine awp_seq4 6 [] ?_ | refine awp_seq 6 [] ?_); intro K hK)) | ((with_reducible first | refine awp_reg ?_ | refine awp_exit ?_ | refine awp_skip ?_ | refine likeK_i ?_ | refine otWR_i ?_); simp only [hq, hw, go_sem]) | (with_reducible refine awp_ret ?_; simp only [retF, retM, retL, resV, resW, retO, resAV, AV.bor, D.bor, D.bor1, D.bor0, AV.flatOwn, D.flatOwn, D.flat, AV.tagged, D.tagged, AObj.plain, hq, hw, go_sem]) | ((with_reducible refine awp_cond' ?_ ?_ (fun hb => ?_) (fun hb => ?_)); (simp only [hq, hw, go_sem]); (simp only [hq, hw, go_sem]); all_goals (simp only [hq, hw, go_sem] at hb; try simp only [bls] at hb)) | ((iterate 6 try ((fail_if_success with_reducible refine hK _ ?_ ?_ ?_); clear hK K)); with_reducible refine hK _ ?_ ?_ ?_; rotate_left; (focus (simp only [hq, hw, go_sem]; exact rfl)); clear hK K) | ((first | (with_reducible first | refine cA c ?_ | refine cD c ?_ | refine cO c ?_ | refine cR c ?_ | refine cG (fun hg => c) ?_ | refine cH (fun hg => c) ?_ | refine cM (fun hg => c) ?_) | (guard_target = CallAt _ _ _ _ _ _ _ _ _ _; refine cA c ?_) | (guard_target = DCallAt _ _ _ _ _ _ _ _; refine cD c ?_) | (guard_target = GCallAt _ _ _ _ _ _ _ _ _ _ _; refine cG (fun hg => c) ?_)); simp only [hq, hw, go_sem]) | (with_reducible refine gsplit_i (fun hg0 => ?_) (fun hg0 => ?_) <;> first | (with_reducible first | exact absurd hg0 Bool.false_ne_true | exact absurd hg0.symm Bool.false_ne_true) | (simp only [hg0, hq, hw, go_sem])) | (with_reducible refine nilK_i ?_; intro bnil hnil; try simp only []) | (omega; done) | (intro hv; (try simp only [bls] at hv); (try simp only [bls]); omega) | (intro hg; (simp only [hg, Bool.true_and, true_and, implies_true]; try (intro hg2; simp only [hg2, Bool.not_false, Bool.not_true])); done)))
  all_goals first | omega | skip
  ·rw [if_pos hb] at hst
   rw [hR, hst]
  ·rw [if_neg hb] at hst
   exact hL _ (k + 1) ⟨by omega, hst⟩ (by (simp only [SubF, go_sem]; (try simp only [go_sem]); repeat' (first | exact True.intro | with_reducible refine And.intro ?_ ?_ | rfl | omega))) (by omega)
 ·rw [drop_end l k (by omega)] at hres
  (simp only [go_sem] at hL ⊢)
  (repeat' (first | (with_reducible first | exact True.intro | refine And.intro ?_ ?_ | refine awp_block ?_ | ((first | refine awp_seq1 6 [] ?_ | refine awp_seq2 6 [] ?_ | refine awp_seq3 6 [] ?_ | refine awp_seq4 6 [] ?_ | refine awp_seq 6 [] ?_); intro K hK)) | ((with_reducible first | refine awp_reg ?_ | refine awp_exit ?_ | refine awp_skip ?_ | refine likeK_i ?_ | refine otWR_i ?_); simp only [hq, go_sem]) | (with_reducible refine awp_ret ?_; simp only [retF, retM, retL, resV, resW, retO, resAV, AV.bor, D.bor, D.bor1, D.bor0, AV.flatOwn, D.flatOwn, D.flat, AV.tagged, D.tagged, AObj.plain, hq, go_sem]) | ((with_reducible refine awp_cond' ?_ ?_ (fun hb => ?_) (fun hb => ?_)); (simp only [hq, go_sem]); (simp only [hq, go_sem]); all_goals (simp only [hq, go_sem] at hb; try simp only [bls] at hb)) | ((iterate 6 try ((fail_if_success with_reducible refine hK _ ?_ ?_ ?_); clear hK K)); with_reducible refine hK _ ?_ ?_ ?_; rotate_left; (focus (simp only [hq, go_sem]; exact rfl)); clear hK K) | (with_reducible refine gsplit_i (fun hg0 => ?_) (fun hg0 => ?_) <;> first | (with_reducible first | exact absurd hg0 Bool.false_ne_true | exact absurd hg0.symm Bool.false_ne_true) | (simp only [hg0, hq, go_sem])) | (with_reducible refine nilK_i ?_; intro bnil hnil; try simp only []) | (omega; done) | (intro hv; (try simp only [bls] at hv); (try simp only [bls]); omega) | (intro hg; (simp only [hg, Bool.true_and, true_and, implies_true]; try (intro hg2; simp only [hg2, Bool.not_false, Bool.not_true])); done)))
  all_goals first | omega | skip
  rw [hR, hres]; rfl
def rdAV (a : NA) (r : List (List Int) × List Int × List Ed) : AV := .tup [.agg (AU.d ⟨a.alpha, r.1.length, r.2.1, r.2.2⟩), .one (.list (wordsD r.1))]
set_option maxHeartbeats 64000000 in
set_option maxRecDepth 20000 in
theorem refDet1_c (a : NA) (n : Nat) (h : DGood a n) (hi0 : a.init ≠ []) (r : List (List Int) × List Int × List Ed) (hr : detN a (-1) = some r) : ACalls Tryd.prog 16 [.agg a.d] (rdAV a r) [] := by
 have hst := start_ok h.ok (-1)
 rw [if_neg hi0, h.tn] at hst
 have hR : some r = detOut (stepN n a.edges (-1)) (fun s => metL s a.marked) a.alpha 4096 4098 0 [closN n (leadE a.edges (-1)) a.init] [] [] := by
  rw [← hr, detN, if_neg hi0, h.tn]
 clear hr
 have hle := h.le
 have hal := h.al
 obtain ⟨f1, f2, f3, f4⟩ := h.fits
 have c1 : ACalls Tryd.prog 54 [.one (.list (ints a.alpha)), .one (.list [])] (.one (.list (ints a.alpha))) [] := by
  have h := refUnion_c a.alpha [] (by simp; omega)
  rw [show unionB a.alpha [] = a.alpha from merge_or_nil_right a.alpha] at h
  exact h
 have hir : ∀ x ∈ a.init, 0 ≤ x ∧ x < (n : Int) := fun x hx => by have := h.ok.init.2 x hx; have := h.st; omega
 have c2 := refClosure_c a n a.init h.toGood h.ok.init.1 hir
 generalize closN n (leadE a.edges (-1)) a.init = c0 at *
 have hi1 : a.init.length ≠ 0 := fun e => hi0 (List.eq_nil_of_length_eq_zero e)
 have c4 := fun s x hi hr => refStep_c a n s x h.toGood hi hr
 have hok := fun s x => stepN_ok (n := n) a.edges (-1) s x
 generalize hst' : stepN n a.edges (-1) = st at *
 simp only [NA.d] at c2 c4
 (refine ACalls.of_body Ty_ok mixed Tryd.func16 rfl (by kernel_rfl) Tryd.ntmps16 (by simp) (congrArg Array.toList Tryd.results16) ?_)
 simp only [slotsOf, NA.d]
 (repeat' (first | (with_reducible first | exact True.intro | refine And.intro ?_ ?_ | refine awp_block ?_ | ((first | refine awp_seq1 10 [] ?_ | refine awp_seq2 10 [] ?_ | refine awp_seq3 10 [] ?_ | refine awp_seq4 10 [] ?_ | refine awp_seq 10 [] ?_); intro K hK)) | ((with_reducible first | refine awp_reg ?_ | refine awp_exit ?_ | refine awp_skip ?_ | refine likeK_i ?_ | refine otWR_i ?_ | refine rP Ty_ok mixed 8 [0, 1, 4] [.mid [pe 2, pe 3, pe 5] 0, .one 6, .mid [pe 7, pe 8] 0] ?_ | refine rP Ty_ok mixed 13 [1, 2, 5, 7] [.mid [pe 0, pe 3, pe 4, pe 6, pe 8, pe 9] 0, .one 10, .one 11] ?_ | refine rP Ty_ok mixed 19 [0, 2, 3, 5, 8] [.mid [pe 1, pe 4, pe 6, pe 7, pe 9, pe 10] 0, .one 11, .one 12, .one 13] ?_); simp only [go_sem]) | (with_reducible refine awp_ret ?_; simp only [retF, retM, retL, resV, resW, retO, resAV, AV.bor, D.bor, D.bor1, D.bor0, AV.flatOwn, D.flatOwn, D.flat, AV.tagged, D.tagged, AObj.plain, go_sem]) | ((with_reducible refine awp_cond' ?_ ?_ (fun hb => ?_) (fun hb => ?_)); (simp only [go_sem]); (simp only [go_sem]); all_goals (simp only [go_sem] at hb; try simp only [bls] at hb)) | ((iterate 6 try ((fail_if_success with_reducible refine hK _ ?_ ?_ ?_); clear hK K)); with_reducible refine hK _ ?_ ?_ ?_; rotate_left; (focus (simp only [go_sem]; exact rfl)); clear hK K) | ((first | (with_reducible first | refine cA c1 ?_ | refine cA c2 ?_ | refine cD c1 ?_ | refine cD c2 ?_ | refine cO c1 ?_ | refine cO c2 ?_ | refine cR c1 ?_ | refine cR c2 ?_ | refine cG (fun hg => c1) ?_ | refine cG (fun hg => c2) ?_ | refine cH (fun hg => c1) ?_ | refine cH (fun hg => c2) ?_ | refine cM (fun hg => c1) ?_ | refine cM (fun hg => c2) ?_) | (guard_target = CallAt _ _ _ _ _ _ _ _ _ _; first | refine cA c1 ?_ | refine cA c2 ?_) | (guard_target = DCallAt _ _ _ _ _ _ _ _; first | refine cD c1 ?_ | refine cD c2 ?_) | (guard_target = GCallAt _ _ _ _ _ _ _ _ _ _ _; first | refine cG (fun hg => c1) ?_ | refine cG (fun hg => c2) ?_)); simp only [go_sem]) | (with_reducible refine gsplit_i (fun hg0 => ?_) (fun hg0 => ?_) <;> first | (with_reducible first | exact absurd hg0 Bool.false_ne_true | exact absurd hg0.symm Bool.false_ne_true) | (simp only [hg0, go_sem])) | (with_reducible refine nilK_i ?_; intro bnil hnil; try simp only []) | (omega; done) | (intro hv; (try simp only [bls] at hv); (try simp only [bls]); omega) | (intro hg; (simp only [hg, Bool.true_and, true_and, implies_true]; try (intro hg2; simp only [hg2, Bool.not_false, Bool.not_true])); done)))
 all_goals first | omega | skip
 refine awp_loopT [.cell 3 2 3 1, .cell 3 3 43 3] _ (by simp only [go_sem]; rfl) (Nat × Nat × List (List Int) × List Int × List Ed)
  (fun q => some r = detOut st (fun s => metL s a.marked) a.alpha 4096 q.1 q.2.1 q.2.2.1 q.2.2.2.1 q.2.2.2.2 ∧ DetOk n q.2.2.1 ∧ q.2.1 ≤ q.2.2.1.length ∧ q.1 + q.2.1 = 4098 ∧ q.2.1 ≤ 4096 ∧ q.2.2.1.length ≤ 4128 ∧ q.2.2.2.1.length ≤ q.2.1 ∧ q.2.2.2.2.length ≤ 32 * q.2.1)
  (fun q => [(5, .one (.own 4)), (6, .one (.int .i64 q.2.1))])
  (fun q => [.var 29 [.list (ints a.alpha), .int .i64 a.states, .list (ints a.init), .list (ints a.marked), .list (edD a.edges)], .var 32 [.nil, .int .i64 0, .nil, .nil], .row 26 1 [],
   .var 32 [.list (ints a.alpha), .int .i64 0, .own 5, .own 6], .row 26 1 (wordsD q.2.2.1), .row 3 1 (ints q.2.2.2.1), .row 43 3 (edD q.2.2.2.2)])
  (fun q => q.1) (4098, 0, [c0], [], []) ⟨hR, hst, by simp, rfl, by simp, by simp, by simp, by simp⟩ ?_ ?_
 ·rw [show ints [] = [] from rfl, show edD [] = [] from rfl]
  (simp only [SubF, go_sem]; (try simp only [go_sem]); repeat' (first | exact True.intro | with_reducible refine And.intro ?_ ?_ | rfl | omega))
 clear hR hst c1 c2
 rintro ⟨f, i, sets, mk, es⟩ ⟨hres, hD, hil, hf, hi4, hsl, hml, hel⟩ L hL
 simp only at hres hD hil hf hi4 hsl hml hel
 have hq : ((i : Nat) : Int).toNat = i := by omega
 obtain ⟨f, rfl⟩ : ∃ g, f = g + 1 := ⟨f - 1, by omega⟩
 rw [detOut] at hres
 by_cases hik : i < sets.length
 ·rw [if_pos hik] at hres
  have hw := words_at (l := sets) hik []
  have hsm := hD.set _ (getD_mem sets i [] hik)
  by_cases hlim : 4096 < sets.length
  ·rw [if_pos hlim] at hres
   cases hres
  ·rw [if_neg hlim] at hres
   have hsl2 := inc_len hsm.2.1 hsm.2.2
   have c5 := refIntersect_c (sets.getD i []) a.marked (by omega) (by omega)
   have c6 := fun x => c4 (sets.getD i []) x hsm.2.1 hsm.2.2
   have hsx := hok (sets.getD i [])
   have hmf := met_filter (sets.getD i []) a.marked
   generalize hsv : sets.getD i [] = sv at *
   generalize sv.filter (fun x => decide (x ∈ a.marked)) = F at *
   obtain ⟨mk2, hmk2⟩ : ∃ m, m = if metL sv a.marked = true then mk ++ [(i : Int)] else mk := ⟨_, rfl⟩
   rw [← hmk2] at hres
   have hml2 : mk2.length ≤ i + 1 := by rw [hmk2]; split <;> (try simp) <;> omega
   cases hm : metL sv a.marked
   all_goals
    rw [hm] at hmk2 hmf
    simp only [if_true, Bool.false_eq_true, if_false, decide_eq_true_eq, decide_eq_false_iff_not] at hmk2 hmf
    (simp only [go_sem] at hL ⊢)
    (repeat' (first | (with_reducible first | exact True.intro | refine And.intro ?_ ?_ | refine awp_block ?_ | ((first | refine awp_seq1 10 [] ?_ | refine awp_seq2 10 [] ?_ | refine awp_seq3 10 [] ?_ | refine awp_seq4 10 [] ?_ | refine awp_seq 10 [] ?_); intro K hK)) | ((with_reducible first | refine awp_reg ?_ | refine awp_exit ?_ | refine awp_skip ?_ | refine likeK_i ?_ | refine otWR_i ?_ | refine rP Ty_ok mixed 8 [0, 1, 4] [.mid [pe 2, pe 3, pe 5] 0, .one 6, .mid [pe 7, pe 8] 0] ?_ | refine rP Ty_ok mixed 13 [1, 2, 5, 7] [.mid [pe 0, pe 3, pe 4, pe 6, pe 8, pe 9] 0, .one 10, .one 11] ?_ | refine rP Ty_ok mixed 19 [0, 2, 3, 5, 8] [.mid [pe 1, pe 4, pe 6, pe 7, pe 9, pe 10] 0, .one 11, .one 12, .one 13] ?_); simp only [hq, hw, ints_snoc, ← hmk2, go_sem]) | (with_reducible refine awp_ret ?_; simp only [retF, retM, retL, resV, resW, retO, resAV, AV.bor, D.bor, D.bor1, D.bor0, AV.flatOwn, D.flatOwn, D.flat, AV.tagged, D.tagged, AObj.plain, hq, hw, ints_snoc, ← hmk2, go_sem]) | ((with_reducible refine awp_cond' ?_ ?_ (fun hb => ?_) (fun hb => ?_)); (simp only [hq, hw, ints_snoc, ← hmk2, go_sem]); (simp only [hq, hw, ints_snoc, ← hmk2, go_sem]); all_goals (simp only [hq, hw, ints_snoc, ← hmk2, go_sem] at hb; try simp only [bls] at hb)) | ((iterate 6 try ((fail_if_success with_reducible refine hK _ ?_ ?_ ?_); clear hK K)); with_reducible refine hK _ ?_ ?_ ?_; rotate_left; (focus (simp only [hq, hw, ints_snoc, ← hmk2, go_sem]; exact rfl)); clear hK K) | ((first | (with_reducible first | refine cA c5 ?_ | refine cD c5 ?_ | refine cO c5 ?_ | refine cR c5 ?_ | refine cG (fun hg => c5) ?_ | refine cH (fun hg => c5) ?_ | refine cM (fun hg => c5) ?_) | (guard_target = CallAt _ _ _ _ _ _ _ _ _ _; refine cA c5 ?_) | (guard_target = DCallAt _ _ _ _ _ _ _ _; refine cD c5 ?_) | (guard_target = GCallAt _ _ _ _ _ _ _ _ _ _ _; refine cG (fun hg => c5) ?_)); simp only [hq, hw, ints_snoc, ← hmk2, go_sem]) | (with_reducible refine gsplit_i (fun hg0 => ?_) (fun hg0 => ?_) <;> first | (with_reducible first | exact absurd hg0 Bool.false_ne_true | exact absurd hg0.symm Bool.false_ne_true) | (simp only [hg0, hq, hw, ints_snoc, ← hmk2, go_sem])) | (with_reducible refine nilK_i ?_; intro bnil hnil; try simp only []) | (omega; done) | (intro hv; (try simp only [bls] at hv); (try simp only [bls]); omega) | (intro hg; (simp only [hg, Bool.true_and, true_and, implies_true]; try (intro hg2; simp only [hg2, Bool.not_false, Bool.not_true])); done)))
    all_goals first | omega | skip
    have hO := hL
    clear hL hmk2
    refine awp_loop _ (by simp only [go_sem]; rfl) (Nat × List (List Int) × List Ed)
     (fun q => q.1 ≤ a.alpha.length ∧ detIn st i sv a.alpha sets es = detIn st i sv (a.alpha.drop q.1) q.2.1 q.2.2 ∧ DetOk n q.2.1 ∧ i < q.2.1.length ∧ q.2.1.getD i [] = sv ∧ q.2.1.length ≤ sets.length + q.1 ∧ q.2.2.length ≤ es.length + q.1)
     (fun q => [(5, .one (.own 4)), (7, .one (.int .i64 q.1))])
     (fun q _ => [.var 29 [.list (ints a.alpha), .int .i64 a.states, .list (ints a.init), .list (ints a.marked), .list (edD a.edges)], .var 32 [.nil, .int .i64 0, .nil, .nil], .row 26 1 [],
   .var 32 [.list (ints a.alpha), .int .i64 0, .own 5, .own 6], .row 26 1 (wordsD q.2.1), .row 3 1 (ints mk2), .row 43 3 (edD q.2.2)])
     (fun q => a.alpha.length - q.1) (0, sets, es) ⟨by simp, by simp, hD, hik, hsv, by simp, by simp⟩ ?_ ?_
    ·(simp only [SubF, go_sem]; (try simp only [go_sem]); repeat' (first | exact True.intro | with_reducible refine And.intro ?_ ?_ | rfl | omega))
    rintro ⟨k, st2, es2⟩ ⟨hk, hdi, hD2, hik2, hsv2, hl2, he2⟩ L2 hL
    simp only at hk hdi hD2 hik2 hsv2 hl2 he2
    have hqk : ((k : Nat) : Int).toNat = k := by omega
    by_cases hkl : k < a.alpha.length
    ·have ha := ints_at (l := a.alpha) hkl
     rw [drop_getD a.alpha k 0 hkl, detIn] at hdi
     generalize hxx : a.alpha.getD k 0 = x at *
     have hw2 := words_at (l := st2) hik2 []
     rw [hsv2] at hw2
     have hx := hsx x
     have c7 := c6 x
     generalize st sv x = t at *
     have htl := inc_len hx.1 hx.2
     have c8 := find_c st2 t (by omega) (fun y hy => by have := inc_len (hD2.set y hy).2.1 (hD2.set y hy).2.2; omega)
     by_cases ht : t = []
     ·rw [if_pos ht] at hdi
      subst ht
      rw [show ints [] = [] from rfl] at c7
      (simp only [go_sem] at hL ⊢)
      (repeat' (first | (with_reducible first | exact True.intro | refine And.intro ?_ ?_ | refine awp_block ?_ | ((first | refine awp_seq1 10 [] ?_ | refine awp_seq2 10 [] ?_ | refine awp_seq3 10 [] ?_ | refine awp_seq4 10 [] ?_ | refine awp_seq 10 [] ?_); intro K hK)) | ((with_reducible first | refine awp_reg ?_ | refine awp_exit ?_ | refine awp_skip ?_ | refine likeK_i ?_ | refine otWR_i ?_ | refine rP Ty_ok mixed 8 [0, 1, 4] [.mid [pe 2, pe 3, pe 5] 0, .one 6, .mid [pe 7, pe 8] 0] ?_ | refine rP Ty_ok mixed 13 [1, 2, 5, 7] [.mid [pe 0, pe 3, pe 4, pe 6, pe 8, pe 9] 0, .one 10, .one 11] ?_ | refine rP Ty_ok mixed 19 [0, 2, 3, 5, 8] [.mid [pe 1, pe 4, pe 6, pe 7, pe 9, pe 10] 0, .one 11, .one 12, .one 13] ?_); simp only [hq, hqk, ha, hxx, hw2, go_sem]) | (with_reducible refine awp_ret ?_; simp only [retF, retM, retL, resV, resW, retO, resAV, AV.bor, D.bor, D.bor1, D.bor0, AV.flatOwn, D.flatOwn, D.flat, AV.tagged, D.tagged, AObj.plain, hq, hqk, ha, hxx, hw2, go_sem]) | ((with_reducible refine awp_cond' ?_ ?_ (fun hb => ?_) (fun hb => ?_)); (simp only [hq, hqk, ha, hxx, hw2, go_sem]); (simp only [hq, hqk, ha, hxx, hw2, go_sem]); all_goals (simp only [hq, hqk, ha, hxx, hw2, go_sem] at hb; try simp only [bls] at hb)) | ((iterate 6 try ((fail_if_success with_reducible refine hK _ ?_ ?_ ?_); clear hK K)); with_reducible refine hK _ ?_ ?_ ?_; rotate_left; (focus (simp only [hq, hqk, ha, hxx, hw2, go_sem]; exact rfl)); clear hK K) | ((first | (with_reducible first | refine cA c7 ?_ | refine cD c7 ?_ | refine cO c7 ?_ | refine cR c7 ?_ | refine cG (fun hg => c7) ?_ | refine cH (fun hg => c7) ?_ | refine cM (fun hg => c7) ?_) | (guard_target = CallAt _ _ _ _ _ _ _ _ _ _; refine cA c7 ?_) | (guard_target = DCallAt _ _ _ _ _ _ _ _; refine cD c7 ?_) | (guard_target = GCallAt _ _ _ _ _ _ _ _ _ _ _; refine cG (fun hg => c7) ?_)); simp only [hq, hqk, ha, hxx, hw2, go_sem]) | (with_reducible refine gsplit_i (fun hg0 => ?_) (fun hg0 => ?_) <;> first | (with_reducible first | exact absurd hg0 Bool.false_ne_true | exact absurd hg0.symm Bool.false_ne_true) | (simp only [hg0, hq, hqk, ha, hxx, hw2, go_sem])) | (with_reducible refine nilK_i ?_; intro bnil hnil; try simp only []) | (omega; done) | (intro hv; (try simp only [bls] at hv); (try simp only [bls]); omega) | (intro hg; (simp only [hg, Bool.true_and, true_and, implies_true]; try (intro hg2; simp only [hg2, Bool.not_false, Bool.not_true])); done)))
      all_goals first | omega | skip
      exact hL _ (k + 1, st2, es2) ⟨by simp only; omega, hdi, hD2, hik2, hsv2, by simp only; omega, by simp only; omega⟩ (by (simp only [SubF, go_sem]; (try simp only [go_sem]); repeat' (first | exact True.intro | with_reducible refine And.intro ?_ ?_ | rfl | omega))) (by simp only; omega)
     ·rw [if_neg ht] at hdi
      have htp : 0 < t.length := List.length_pos_iff.2 ht
      cases hf : fndS t 0 st2 with
      | some j =>
       rw [hf] at hdi
       simp only at hdi
       rw [fndI, hf] at c8
       simp only at c8
       (simp only [go_sem] at hL ⊢)
       (repeat' (first | (with_reducible first | exact True.intro | refine And.intro ?_ ?_ | refine awp_block ?_ | ((first | refine awp_seq1 10 [] ?_ | refine awp_seq2 10 [] ?_ | refine awp_seq3 10 [] ?_ | refine awp_seq4 10 [] ?_ | refine awp_seq 10 [] ?_); intro K hK)) | ((with_reducible first | refine awp_reg ?_ | refine awp_exit ?_ | refine awp_skip ?_ | refine likeK_i ?_ | refine otWR_i ?_ | refine rP Ty_ok mixed 8 [0, 1, 4] [.mid [pe 2, pe 3, pe 5] 0, .one 6, .mid [pe 7, pe 8] 0] ?_ | refine rP Ty_ok mixed 13 [1, 2, 5, 7] [.mid [pe 0, pe 3, pe 4, pe 6, pe 8, pe 9] 0, .one 10, .one 11] ?_ | refine rP Ty_ok mixed 19 [0, 2, 3, 5, 8] [.mid [pe 1, pe 4, pe 6, pe 7, pe 9, pe 10] 0, .one 11, .one 12, .one 13] ?_); simp only [hq, hqk, ha, hxx, hw2, eds_snoc, go_sem]) | (with_reducible refine awp_ret ?_; simp only [retF, retM, retL, resV, resW, retO, resAV, AV.bor, D.bor, D.bor1, D.bor0, AV.flatOwn, D.flatOwn, D.flat, AV.tagged, D.tagged, AObj.plain, hq, hqk, ha, hxx, hw2, eds_snoc, go_sem]) | ((with_reducible refine awp_cond' ?_ ?_ (fun hb => ?_) (fun hb => ?_)); (simp only [hq, hqk, ha, hxx, hw2, eds_snoc, go_sem]); (simp only [hq, hqk, ha, hxx, hw2, eds_snoc, go_sem]); all_goals (simp only [hq, hqk, ha, hxx, hw2, eds_snoc, go_sem] at hb; try simp only [bls] at hb)) | ((iterate 6 try ((fail_if_success with_reducible refine hK _ ?_ ?_ ?_); clear hK K)); with_reducible refine hK _ ?_ ?_ ?_; rotate_left; (focus (simp only [hq, hqk, ha, hxx, hw2, eds_snoc, go_sem]; exact rfl)); clear hK K) | ((first | (with_reducible first | refine cA c7 ?_ | refine cA c8 ?_ | refine cD c7 ?_ | refine cD c8 ?_ | refine cO c7 ?_ | refine cO c8 ?_ | refine cR c7 ?_ | refine cR c8 ?_ | refine cG (fun hg => c7) ?_ | refine cG (fun hg => c8) ?_ | refine cH (fun hg => c7) ?_ | refine cH (fun hg => c8) ?_ | refine cM (fun hg => c7) ?_ | refine cM (fun hg => c8) ?_) | (guard_target = CallAt _ _ _ _ _ _ _ _ _ _; first | refine cA c7 ?_ | refine cA c8 ?_) | (guard_target = DCallAt _ _ _ _ _ _ _ _; first | refine cD c7 ?_ | refine cD c8 ?_) | (guard_target = GCallAt _ _ _ _ _ _ _ _ _ _ _; first | refine cG (fun hg => c7) ?_ | refine cG (fun hg => c8) ?_)); simp only [hq, hqk, ha, hxx, hw2, eds_snoc, go_sem]) | (with_reducible refine gsplit_i (fun hg0 => ?_) (fun hg0 => ?_) <;> first | (with_reducible first | exact absurd hg0 Bool.false_ne_true | exact absurd hg0.symm Bool.false_ne_true) | (simp only [hg0, hq, hqk, ha, hxx, hw2, eds_snoc, go_sem])) | (with_reducible refine nilK_i ?_; intro bnil hnil; try simp only []) | (omega; done) | (intro hv; (try simp only [bls] at hv); (try simp only [bls]); omega) | (intro hg; (simp only [hg, Bool.true_and, true_and, implies_true]; try (intro hg2; simp only [hg2, Bool.not_false, Bool.not_true])); done)))
       all_goals first | omega | skip
       all_goals exact hL _ (k + 1, st2, es2 ++ [⟨i, x, j⟩]) ⟨by simp only; omega, hdi, hD2, hik2, hsv2, by simp only; omega, by simp only [List.length_append, List.length_singleton]; omega⟩ (by (simp only [SubF, go_sem]; (try simp only [go_sem]); repeat' (first | exact True.intro | with_reducible refine And.intro ?_ ?_ | rfl | omega))) (by simp only; omega)
      | none =>
       rw [hf] at hdi
       simp only at hdi
       rw [fndI, hf] at c8
       simp only at c8
       (simp only [go_sem] at hL ⊢)
       (repeat' (first | (with_reducible first | exact True.intro | refine And.intro ?_ ?_ | refine awp_block ?_ | ((first | refine awp_seq1 10 [] ?_ | refine awp_seq2 10 [] ?_ | refine awp_seq3 10 [] ?_ | refine awp_seq4 10 [] ?_ | refine awp_seq 10 [] ?_); intro K hK)) | ((with_reducible first | refine awp_reg ?_ | refine awp_exit ?_ | refine awp_skip ?_ | refine likeK_i ?_ | refine otWR_i ?_ | refine rP Ty_ok mixed 8 [0, 1, 4] [.mid [pe 2, pe 3, pe 5] 0, .one 6, .mid [pe 7, pe 8] 0] ?_ | refine rP Ty_ok mixed 13 [1, 2, 5, 7] [.mid [pe 0, pe 3, pe 4, pe 6, pe 8, pe 9] 0, .one 10, .one 11] ?_ | refine rP Ty_ok mixed 19 [0, 2, 3, 5, 8] [.mid [pe 1, pe 4, pe 6, pe 7, pe 9, pe 10] 0, .one 11, .one 12, .one 13] ?_); simp only [hq, hqk, ha, hxx, hw2, eds_snoc, words_one, words_append, words_pure, go_sem]) | (with_reducible refine awp_ret ?_; simp only [retF, retM, retL, resV, resW, retO, resAV, AV.bor, D.bor, D.bor1, D.bor0, AV.flatOwn, D.flatOwn, D.flat, AV.tagged, D.tagged, AObj.plain, hq, hqk, ha, hxx, hw2, eds_snoc, words_one, words_append, words_pure, go_sem]) | ((with_reducible refine awp_cond' ?_ ?_ (fun hb => ?_) (fun hb => ?_)); (simp only [hq, hqk, ha, hxx, hw2, eds_snoc, words_one, words_append, words_pure, go_sem]); (simp only [hq, hqk, ha, hxx, hw2, eds_snoc, words_one, words_append, words_pure, go_sem]); all_goals (simp only [hq, hqk, ha, hxx, hw2, eds_snoc, words_one, words_append, words_pure, go_sem] at hb; try simp only [bls] at hb)) | ((iterate 6 try ((fail_if_success with_reducible refine hK _ ?_ ?_ ?_); clear hK K)); with_reducible refine hK _ ?_ ?_ ?_; rotate_left; (focus (simp only [hq, hqk, ha, hxx, hw2, eds_snoc, words_one, words_append, words_pure, go_sem]; exact rfl)); clear hK K) | ((first | (with_reducible first | refine cA c7 ?_ | refine cA c8 ?_ | refine cD c7 ?_ | refine cD c8 ?_ | refine cO c7 ?_ | refine cO c8 ?_ | refine cR c7 ?_ | refine cR c8 ?_ | refine cG (fun hg => c7) ?_ | refine cG (fun hg => c8) ?_ | refine cH (fun hg => c7) ?_ | refine cH (fun hg => c8) ?_ | refine cM (fun hg => c7) ?_ | refine cM (fun hg => c8) ?_) | (guard_target = CallAt _ _ _ _ _ _ _ _ _ _; first | refine cA c7 ?_ | refine cA c8 ?_) | (guard_target = DCallAt _ _ _ _ _ _ _ _; first | refine cD c7 ?_ | refine cD c8 ?_) | (guard_target = GCallAt _ _ _ _ _ _ _ _ _ _ _; first | refine cG (fun hg => c7) ?_ | refine cG (fun hg => c8) ?_)); simp only [hq, hqk, ha, hxx, hw2, eds_snoc, words_one, words_append, words_pure, go_sem]) | (with_reducible refine gsplit_i (fun hg0 => ?_) (fun hg0 => ?_) <;> first | (with_reducible first | exact absurd hg0 Bool.false_ne_true | exact absurd hg0.symm Bool.false_ne_true) | (simp only [hg0, hq, hqk, ha, hxx, hw2, eds_snoc, words_one, words_append, words_pure, go_sem])) | (with_reducible refine nilK_i ?_; intro bnil hnil; try simp only []) | (omega; done) | (intro hv; (try simp only [bls] at hv); (try simp only [bls]); omega) | (intro hg; (simp only [hg, Bool.true_and, true_and, implies_true]; try (intro hg2; simp only [hg2, Bool.not_false, Bool.not_true])); done)))
       all_goals first | omega | skip
       all_goals exact hL _ (k + 1, st2 ++ [t], es2 ++ [⟨i, x, st2.length⟩]) ⟨by simp only; omega, hdi, hD2.snoc ht hx.1 hx.2 (fndS_none.1 hf), by simp only [List.length_append, List.length_singleton]; omega, by simp only; rw [getD_app _ _ _ hik2]; exact hsv2, by simp only [List.length_append, List.length_singleton]; omega, by simp only [List.length_append, List.length_singleton]; omega⟩ (by (simp only [SubF, go_sem]; (try simp only [go_sem]); repeat' (first | exact True.intro | with_reducible refine And.intro ?_ ?_ | rfl | omega))) (by simp only; omega)
    ·have hkk : k = a.alpha.length := by omega
     rw [drop_len _ _ (by omega), detIn] at hdi
     rw [hdi] at hres
     (simp only [go_sem] at hL ⊢)
     (repeat' (first | (with_reducible first | exact True.intro | refine And.intro ?_ ?_ | refine awp_block ?_ | ((first | refine awp_seq1 10 [] ?_ | refine awp_seq2 10 [] ?_ | refine awp_seq3 10 [] ?_ | refine awp_seq4 10 [] ?_ | refine awp_seq 10 [] ?_); intro K hK)) | ((with_reducible first | refine awp_reg ?_ | refine awp_exit ?_ | refine awp_skip ?_ | refine likeK_i ?_ | refine otWR_i ?_ | refine rP Ty_ok mixed 8 [0, 1, 4] [.mid [pe 2, pe 3, pe 5] 0, .one 6, .mid [pe 7, pe 8] 0] ?_ | refine rP Ty_ok mixed 13 [1, 2, 5, 7] [.mid [pe 0, pe 3, pe 4, pe 6, pe 8, pe 9] 0, .one 10, .one 11] ?_ | refine rP Ty_ok mixed 19 [0, 2, 3, 5, 8] [.mid [pe 1, pe 4, pe 6, pe 7, pe 9, pe 10] 0, .one 11, .one 12, .one 13] ?_); simp only [hq, hqk, go_sem]) | (with_reducible refine awp_ret ?_; simp only [retF, retM, retL, resV, resW, retO, resAV, AV.bor, D.bor, D.bor1, D.bor0, AV.flatOwn, D.flatOwn, D.flat, AV.tagged, D.tagged, AObj.plain, hq, hqk, go_sem]) | ((with_reducible refine awp_cond' ?_ ?_ (fun hb => ?_) (fun hb => ?_)); (simp only [hq, hqk, go_sem]); (simp only [hq, hqk, go_sem]); all_goals (simp only [hq, hqk, go_sem] at hb; try simp only [bls] at hb)) | ((iterate 6 try ((fail_if_success with_reducible refine hK _ ?_ ?_ ?_); clear hK K)); with_reducible refine hK _ ?_ ?_ ?_; rotate_left; (focus (simp only [hq, hqk, go_sem]; exact rfl)); clear hK K) | (with_reducible refine gsplit_i (fun hg0 => ?_) (fun hg0 => ?_) <;> first | (with_reducible first | exact absurd hg0 Bool.false_ne_true | exact absurd hg0.symm Bool.false_ne_true) | (simp only [hg0, hq, hqk, go_sem])) | (with_reducible refine nilK_i ?_; intro bnil hnil; try simp only []) | (omega; done) | (intro hv; (try simp only [bls] at hv); (try simp only [bls]); omega) | (intro hg; (simp only [hg, Bool.true_and, true_and, implies_true]; try (intro hg2; simp only [hg2, Bool.not_false, Bool.not_true])); done)))
     all_goals first | omega | skip
     refine hO _ (f, i + 1, st2, mk2, es2) ⟨hres, hD2, by simp only; omega, by simp only; omega, by simp only; omega, by simp only; omega, hml2, by simp only; omega⟩ ?_ (by simp only; omega)
     (simp only [SubF, go_sem]; (try simp only [go_sem]); repeat' (first | exact True.intro | with_reducible refine And.intro ?_ ?_ | rfl | omega))
 ·rw [if_neg hik] at hres
  cases hres
  (simp only [go_sem] at hL ⊢)
  (repeat' (first | (with_reducible first | exact True.intro | refine And.intro ?_ ?_ | refine awp_block ?_ | ((first | refine awp_seq1 10 [] ?_ | refine awp_seq2 10 [] ?_ | refine awp_seq3 10 [] ?_ | refine awp_seq4 10 [] ?_ | refine awp_seq 10 [] ?_); intro K hK)) | ((with_reducible first | refine awp_reg ?_ | refine awp_exit ?_ | refine awp_skip ?_ | refine likeK_i ?_ | refine otWR_i ?_ | refine rP Ty_ok mixed 8 [0, 1, 4] [.mid [pe 2, pe 3, pe 5] 0, .one 6, .mid [pe 7, pe 8] 0] ?_ | refine rP Ty_ok mixed 13 [1, 2, 5, 7] [.mid [pe 0, pe 3, pe 4, pe 6, pe 8, pe 9] 0, .one 10, .one 11] ?_ | refine rP Ty_ok mixed 19 [0, 2, 3, 5, 8] [.mid [pe 1, pe 4, pe 6, pe 7, pe 9, pe 10] 0, .one 11, .one 12, .one 13] ?_); simp only [go_sem]) | (with_reducible refine awp_ret ?_; simp only [retF, retM, retL, resV, resW, retO, resAV, AV.bor, D.bor, D.bor1, D.bor0, AV.flatOwn, D.flatOwn, D.flat, AV.tagged, D.tagged, AObj.plain, go_sem]) | ((with_reducible refine awp_cond' ?_ ?_ (fun hb => ?_) (fun hb => ?_)); (simp only [go_sem]); (simp only [go_sem]); all_goals (simp only [go_sem] at hb; try simp only [bls] at hb)) | ((iterate 6 try ((fail_if_success with_reducible refine hK _ ?_ ?_ ?_); clear hK K)); with_reducible refine hK _ ?_ ?_ ?_; rotate_left; (focus (simp only [go_sem]; exact rfl)); clear hK K) | (with_reducible refine gsplit_i (fun hg0 => ?_) (fun hg0 => ?_) <;> first | (with_reducible first | exact absurd hg0 Bool.false_ne_true | exact absurd hg0.symm Bool.false_ne_true) | (simp only [hg0, go_sem])) | (with_reducible refine nilK_i ?_; intro bnil hnil; try simp only []) | (omega; done) | (intro hv; (try simp only [bls] at hv); (try simp only [bls]); omega) | (intro hg; (simp only [hg, Bool.true_and, true_and, implies_true]; try (intro hg2; simp only [hg2, Bool.not_false, Bool.not_true])); done)))
  all_goals first | omega | skip
  all_goals rfl
set_option maxHeartbeats 16000000 in
theorem refDet0_c (a : NA) (hal : a.alpha.length ≤ 100000) (hi0 : a.init = []) : ACalls Tryd.prog 16 [.agg a.d] (rdAV a ([], [], [])) [] := by
 have c1 : ACalls Tryd.prog 54 [.one (.list (ints a.alpha)), .one (.list [])] (.one (.list (ints a.alpha))) [] := by
  have h := refUnion_c a.alpha [] (by simp; omega)
  rw [show unionB a.alpha [] = a.alpha from merge_or_nil_right a.alpha] at h
  exact h
 have hi1 : a.init.length = 0 := by rw [hi0]; rfl
 (refine ACalls.of_body Ty_ok mixed Tryd.func16 rfl (by kernel_rfl) Tryd.ntmps16 (by simp) (congrArg Array.toList Tryd.results16) ?_)
 simp only [slotsOf, NA.d]
 (repeat' (first | (with_reducible first | exact True.intro | refine And.intro ?_ ?_ | refine awp_block ?_ | ((first | refine awp_seq1 10 [] ?_ | refine awp_seq2 10 [] ?_ | refine awp_seq3 10 [] ?_ | refine awp_seq4 10 [] ?_ | refine awp_seq 10 [] ?_); intro K hK)) | ((with_reducible first | refine awp_reg ?_ | refine awp_exit ?_ | refine awp_skip ?_ | refine likeK_i ?_ | refine otWR_i ?_ | refine rP Ty_ok mixed 8 [0, 1, 4] [.mid [pe 2, pe 3, pe 5] 0, .one 6, .mid [pe 7, pe 8] 0] ?_ | refine rP Ty_ok mixed 13 [1, 2, 5, 7] [.mid [pe 0, pe 3, pe 4, pe 6, pe 8, pe 9] 0, .one 10, .one 11] ?_ | refine rP Ty_ok mixed 19 [0, 2, 3, 5, 8] [.mid [pe 1, pe 4, pe 6, pe 7, pe 9, pe 10] 0, .one 11, .one 12, .one 13] ?_); simp only [hi1, go_sem]) | (with_reducible refine awp_ret ?_; simp only [retF, retM, retL, resV, resW, retO, resAV, AV.bor, D.bor, D.bor1, D.bor0, AV.flatOwn, D.flatOwn, D.flat, AV.tagged, D.tagged, AObj.plain, hi1, go_sem]) | ((with_reducible refine awp_cond' ?_ ?_ (fun hb => ?_) (fun hb => ?_)); (simp only [hi1, go_sem]); (simp only [hi1, go_sem]); all_goals (simp only [hi1, go_sem] at hb; try simp only [bls] at hb)) | ((iterate 6 try ((fail_if_success with_reducible refine hK _ ?_ ?_ ?_); clear hK K)); with_reducible refine hK _ ?_ ?_ ?_; rotate_left; (focus (simp only [hi1, go_sem]; exact rfl)); clear hK K) | ((first | (with_reducible first | refine cA c1 ?_ | refine cD c1 ?_ | refine cO c1 ?_ | refine cR c1 ?_ | refine cG (fun hg => c1) ?_ | refine cH (fun hg => c1) ?_ | refine cM (fun hg => c1) ?_) | (guard_target = CallAt _ _ _ _ _ _ _ _ _ _; refine cA c1 ?_) | (guard_target = DCallAt _ _ _ _ _ _ _ _; refine cD c1 ?_) | (guard_target = GCallAt _ _ _ _ _ _ _ _ _ _ _; refine cG (fun hg => c1) ?_)); simp only [hi1, go_sem]) | (with_reducible refine gsplit_i (fun hg0 => ?_) (fun hg0 => ?_) <;> first | (with_reducible first | exact absurd hg0 Bool.false_ne_true | exact absurd hg0.symm Bool.false_ne_true) | (simp only [hg0, hi1, go_sem])) | (with_reducible refine nilK_i ?_; intro bnil hnil; try simp only []) | (omega; done) | (intro hv; (try simp only [bls] at hv); (try simp only [bls]); omega) | (intro hg; (simp only [hg, Bool.true_and, true_and, implies_true]; try (intro hg2; simp only [hg2, Bool.not_false, Bool.not_true])); done)))
 all_goals first | omega | skip
 all_goals rfl
end Go.Proofs.YtgagpbbnbonnlaaDoor
