/-
 Contracts of chapter 51's law: the constraint of a set, comparing, what is controlled, the next step, its own prevention.
-/
import Derived.Test.YtlpllbbjmbbfnaaGreatDoorQJ
import Derived.Test.YtlpllbbjmbbfnaaGreatDoorE5
set_option linter.unusedSimpArgs false
set_option linter.unusedVariables false
namespace Go.Proofs.YtlpllbbjmbbfnaaGreatDoor
open Go.Eng Go.RowKit
theorem lHas_c (l : List Int) (x : Int) (hn : l.length ≤ 1000000) : ACalls Tryz.prog 18 [.one (.list (ints l)), .one (.int .i64 x)] (.one (.bool (decide (x ∈ l)))) [] := by
 (refine ACalls.of_body Ty_ok mixed Tryz.func18 rfl (by kernel_rfl) Tryz.ntmps18 (by simp) (congrArg Array.toList Tryz.results18) ?_)
 simp only [slotsOf]
 (repeat' (first | (with_reducible first | exact True.intro | refine And.intro ?_ ?_ | refine aBl ?_ | (refine aS 6 [] ?_; intro K hK)) | ((with_reducible first | refine aGo ?_); simp only [go_sem]) | ((with_reducible refine aCd ?_ ?_ (fun hb => ?_) (fun hb => ?_)); (iterate 2 simp only [go_sem]); all_goals (simp only [go_sem] at hb; try simp only [bls] at hb)) | ((iterate 6 try ((fail_if_success with_reducible refine hK _ ?_ ?_ ?_); clear hK K)); with_reducible refine hK _ ?_ ?_ ?_; rotate_left; (focus (simp only [go_sem]; exact rfl)); clear hK K) | (with_reducible refine aGs (fun hg0 => ?_) (fun hg0 => ?_) <;> first | (with_reducible first | exact aF1 hg0 | exact aF2 hg0) | (simp only [hg0, go_sem])) | (with_reducible refine aNk ?_; intro bnil hnil; try simp only []) | exact aZ | fail))
 refine awp_loop _ (by simp only [go_sem]; rfl) Nat (fun k => k ≤ l.length ∧ decide (x ∈ l) = decide (x ∈ l.drop k)) (fun k => [(5, .one (.int .i64 k))]) (fun _ H => H) (fun k => l.length - k) 0 ⟨by omega, by simp⟩ ?_ ?_
 ·(simp only [SubF, go_sem]; (try simp only [go_sem]); repeat' (first | exact True.intro | with_reducible refine And.intro ?_ ?_ | rfl | omega))
 ·rintro k ⟨hk, hres⟩ L hL
  by_cases hlt : k < l.length
  ·rw [drop_getD l k 0 hlt] at hres
   (simp only [go_sem] at hL ⊢)
   (repeat' (first | (with_reducible first | exact True.intro | refine And.intro ?_ ?_ | refine aBl ?_ | (refine aS 6 [] ?_; intro K hK)) | ((with_reducible first | refine aGo ?_); simp only [go_sem]) | ((with_reducible refine aCd ?_ ?_ (fun hb => ?_) (fun hb => ?_)); (iterate 2 simp only [go_sem]); all_goals (simp only [go_sem] at hb; try simp only [bls] at hb)) | ((iterate 6 try ((fail_if_success with_reducible refine hK _ ?_ ?_ ?_); clear hK K)); with_reducible refine hK _ ?_ ?_ ?_; rotate_left; (focus (simp only [go_sem]; exact rfl)); clear hK K) | (with_reducible refine aGs (fun hg0 => ?_) (fun hg0 => ?_) <;> first | (with_reducible first | exact aF1 hg0 | exact aF2 hg0) | (simp only [hg0, go_sem])) | (with_reducible refine aNk ?_; intro bnil hnil; try simp only []) | exact aZ | fail))
   all_goals first | omega | skip
   ·rw [hres, ← hb]; simp
   ·refine hL _ (k + 1) ⟨by omega, ?_⟩ (by (simp only [SubF, go_sem]; (try simp only [go_sem]); repeat' (first | exact True.intro | with_reducible refine And.intro ?_ ?_ | rfl | omega))) (by omega)
    have hne : ¬ x = l.getD k 0 := fun e => hb e.symm
    rw [hres, Bool.eq_iff_iff]
    simp only [decide_eq_true_eq, List.mem_cons, hne, false_or]
  ·(simp only [go_sem] at hL ⊢)
   (repeat' (first | (with_reducible first | exact True.intro | refine And.intro ?_ ?_ | refine aBl ?_ | (refine aS 6 [] ?_; intro K hK)) | ((with_reducible first | refine aGo ?_); simp only [go_sem]) | ((with_reducible refine aCd ?_ ?_ (fun hb => ?_) (fun hb => ?_)); (iterate 2 simp only [go_sem]); all_goals (simp only [go_sem] at hb; try simp only [bls] at hb)) | ((iterate 6 try ((fail_if_success with_reducible refine hK _ ?_ ?_ ?_); clear hK K)); with_reducible refine hK _ ?_ ?_ ?_; rotate_left; (focus (simp only [go_sem]; exact rfl)); clear hK K) | (with_reducible refine aGs (fun hg0 => ?_) (fun hg0 => ?_) <;> first | (with_reducible first | exact aF1 hg0 | exact aF2 hg0) | (simp only [hg0, go_sem])) | (with_reducible refine aNk ?_; intro bnil hnil; try simp only []) | exact aZ | fail))
   all_goals first | omega | skip
   rw [hres, drop_end l k (by omega)]; rfl
set_option maxHeartbeats 4000000 in
theorem lConstraint_c (p : Nat) (s : List Int) (hp : p ≤ 1000) (hn : s.length ≤ 1000000) : ACalls Tryz.prog 35 [.one (.int .i64 p), .one (.list (ints s))] (.agg (kepC p s).d) [] := by
 have hfl := fun k => facK_length k s
 (refine ACalls.of_body Ty_ok mixed Tryz.func35 rfl (by kernel_rfl) Tryz.ntmps35 (by simp) (congrArg Array.toList Tryz.results35) ?_)
 simp only [slotsOf, Con.d, kepC]
 (repeat' (first | (with_reducible first | exact True.intro | refine And.intro ?_ ?_ | refine aBl ?_ | (refine aS 8 [] ?_; intro K hK)) | ((with_reducible first | refine aGo ?_); simp only [go_sem]) | ((with_reducible refine aCd ?_ ?_ (fun hb => ?_) (fun hb => ?_)); (iterate 2 simp only [go_sem]); all_goals (simp only [go_sem] at hb; try simp only [bls] at hb)) | ((iterate 6 try ((fail_if_success with_reducible refine hK _ ?_ ?_ ?_); clear hK K)); with_reducible refine hK _ ?_ ?_ ?_; rotate_left; (focus (simp only [go_sem]; exact rfl)); clear hK K) | (with_reducible refine aGs (fun hg0 => ?_) (fun hg0 => ?_) <;> first | (with_reducible first | exact aF1 hg0 | exact aF2 hg0) | (simp only [hg0, go_sem])) | (with_reducible refine aNk ?_; intro bnil hnil; try simp only []) | exact aZ | fail))
 all_goals first | omega | skip
 refine awp_loopT [.cell 1 0 3 1] _ (by simp only [go_sem]; rfl) Nat (fun k => k ≤ p) (fun k => [(6, .one (.int .i64 k))]) (fun k => [.var 38 [.nil, .int .i64 0], .var 38 [.own 2, .int .i64 (-1)], .row 3 1 (ints (facK k s))]) (fun k => p - k) 0 (by omega) ?_ ?_
 ·have e0 : ints (facK 0 s) = [] := rfl
  rw [e0]
  (simp only [SubF, go_sem]; (try simp only [go_sem]); repeat' (first | exact True.intro | with_reducible refine And.intro ?_ ?_ | rfl | omega))
 rintro k hk L hL
 have hl := hfl k
 have e1 := facK_snoc k s
 by_cases hlt : k < p
 ·have hh := lHas_c s k hn
  by_cases hm : (k : Int) ∈ s
  ·rw [decide_eq_true hm] at hh
   rw [if_pos hm] at e1
   (simp only [go_sem] at hL ⊢)
   (repeat' (first | (with_reducible first | exact True.intro | refine And.intro ?_ ?_ | refine aBl ?_ | (refine aS 8 [] ?_; intro K hK)) | ((with_reducible first | refine aGo ?_); simp only [go_sem]) | ((with_reducible refine aCd ?_ ?_ (fun hb => ?_) (fun hb => ?_)); (iterate 2 simp only [go_sem]); all_goals (simp only [go_sem] at hb; try simp only [bls] at hb)) | ((iterate 6 try ((fail_if_success with_reducible refine hK _ ?_ ?_ ?_); clear hK K)); with_reducible refine hK _ ?_ ?_ ?_; rotate_left; (focus (simp only [go_sem]; exact rfl)); clear hK K) | ((first | (with_reducible first | refine xA ?_ | refine xD ?_ | refine xO ?_ | refine xR ?_ | refine xG ?_ | refine xH ?_ | refine xM ?_) | ((with_reducible refine gA ?_); refine xA ?_) | ((with_reducible refine gD ?_); refine xD ?_) | ((with_reducible refine gG ?_); refine xG ?_)); simp only [go_sem]) | (with_reducible refine aGs (fun hg0 => ?_) (fun hg0 => ?_) <;> first | (with_reducible first | exact aF1 hg0 | exact aF2 hg0) | (simp only [hg0, go_sem])) | (with_reducible refine aNk ?_; intro bnil hnil; try simp only []) | exact aZ | fail))
   all_goals first | omega | skip
   rw [ints_one, ints_append, ← e1]
   exact hL _ (k + 1) (by omega) (by (simp only [SubF, go_sem]; (try simp only [go_sem]); repeat' (first | exact True.intro | with_reducible refine And.intro ?_ ?_ | rfl | omega))) (by omega)
  ·rw [decide_eq_false hm] at hh
   rw [if_neg hm] at e1
   (simp only [go_sem] at hL ⊢)
   (repeat' (first | (with_reducible first | exact True.intro | refine And.intro ?_ ?_ | refine aBl ?_ | (refine aS 8 [] ?_; intro K hK)) | ((with_reducible first | refine aGo ?_); simp only [go_sem]) | ((with_reducible refine aCd ?_ ?_ (fun hb => ?_) (fun hb => ?_)); (iterate 2 simp only [go_sem]); all_goals (simp only [go_sem] at hb; try simp only [bls] at hb)) | ((iterate 6 try ((fail_if_success with_reducible refine hK _ ?_ ?_ ?_); clear hK K)); with_reducible refine hK _ ?_ ?_ ?_; rotate_left; (focus (simp only [go_sem]; exact rfl)); clear hK K) | ((first | (with_reducible first | refine xA ?_ | refine xD ?_ | refine xO ?_ | refine xR ?_ | refine xG ?_ | refine xH ?_ | refine xM ?_) | ((with_reducible refine gA ?_); refine xA ?_) | ((with_reducible refine gD ?_); refine xD ?_) | ((with_reducible refine gG ?_); refine xG ?_)); simp only [go_sem]) | (with_reducible refine aGs (fun hg0 => ?_) (fun hg0 => ?_) <;> first | (with_reducible first | exact aF1 hg0 | exact aF2 hg0) | (simp only [hg0, go_sem])) | (with_reducible refine aNk ?_; intro bnil hnil; try simp only []) | exact aZ | fail))
   all_goals first | omega | skip
   rw [ints_one, ints_append, ← e1]
   exact hL _ (k + 1) (by omega) (by (simp only [SubF, go_sem]; (try simp only [go_sem]); repeat' (first | exact True.intro | with_reducible refine And.intro ?_ ?_ | rfl | omega))) (by omega)
 ·have : k = p := by omega
  subst this
  (simp only [go_sem] at hL ⊢)
  (repeat' (first | (with_reducible first | exact True.intro | refine And.intro ?_ ?_ | refine aBl ?_ | (refine aS 8 [] ?_; intro K hK)) | ((with_reducible first | refine aGo ?_); simp only [go_sem]) | ((with_reducible refine aCd ?_ ?_ (fun hb => ?_) (fun hb => ?_)); (iterate 2 simp only [go_sem]); all_goals (simp only [go_sem] at hb; try simp only [bls] at hb)) | ((iterate 6 try ((fail_if_success with_reducible refine hK _ ?_ ?_ ?_); clear hK K)); with_reducible refine hK _ ?_ ?_ ?_; rotate_left; (focus (simp only [go_sem]; exact rfl)); clear hK K) | (with_reducible refine aGs (fun hg0 => ?_) (fun hg0 => ?_) <;> first | (with_reducible first | exact aF1 hg0 | exact aF2 hg0) | (simp only [hg0, go_sem])) | (with_reducible refine aNk ?_; intro bnil hnil; try simp only []) | exact aZ | fail))
  all_goals first | omega | skip
theorem lSameCon_c (a b : Con) (hn : a.fac.length ≤ 1000000) : ACalls Tryz.prog 34 [.agg a.d, .agg b.d] (.one (.bool (decide (a = b)))) [] := by
 have h1 := SameInts_c a.fac b.fac hn
 (refine ACalls.of_body Ty_ok mixed Tryz.func34 rfl (by kernel_rfl) Tryz.ntmps34 (by simp) (congrArg Array.toList Tryz.results34) ?_)
 simp only [slotsOf, Con.d]
 (repeat' (first | (with_reducible first | exact True.intro | refine And.intro ?_ ?_ | refine aBl ?_ | (refine aS 5 [] ?_; intro K hK)) | ((with_reducible first | refine aGo ?_); simp only [go_sem]) | ((with_reducible refine aCd ?_ ?_ (fun hb => ?_) (fun hb => ?_)); (iterate 2 simp only [go_sem]); all_goals (simp only [go_sem] at hb; try simp only [bls] at hb)) | ((iterate 6 try ((fail_if_success with_reducible refine hK _ ?_ ?_ ?_); clear hK K)); with_reducible refine hK _ ?_ ?_ ?_; rotate_left; (focus (simp only [go_sem]; exact rfl)); clear hK K) | ((first | (with_reducible first | refine xA ?_ | refine xD ?_ | refine xO ?_ | refine xR ?_ | refine xG ?_ | refine xH ?_ | refine xM ?_) | ((with_reducible refine gA ?_); refine xA ?_) | ((with_reducible refine gD ?_); refine xD ?_) | ((with_reducible refine gG ?_); refine xG ?_)); simp only [go_sem]) | (with_reducible refine aGs (fun hg0 => ?_) (fun hg0 => ?_) <;> first | (with_reducible first | exact aF1 hg0 | exact aF2 hg0) | (simp only [hg0, go_sem])) | (with_reducible refine aNk ?_; intro bnil hnil; try simp only []) | exact aZ | fail))
 obtain ⟨a1, a2⟩ := a
 obtain ⟨b1, b2⟩ := b
 rw [Bool.eq_iff_iff]
 simp
set_option maxHeartbeats 4000000 in
theorem lSameSteps_c (xs ys : List Stp) (hn : xs.length ≤ 1000000) (hs : ∀ x ∈ xs, x.Fits) : ACalls Tryz.prog 15 [.one (.list (stpD xs)), .one (.list (stpD ys))] (.one (.bool (decide (xs = ys)))) [] := by
 (refine ACalls.of_body Ty_ok mixed Tryz.func15 rfl (by kernel_rfl) Tryz.ntmps15 (by simp) (congrArg Array.toList Tryz.results15) ?_)
 simp only [slotsOf]
 (repeat' (first | (with_reducible first | exact True.intro | refine And.intro ?_ ?_ | refine aBl ?_ | (refine aS 6 [] ?_; intro K hK)) | ((with_reducible first | refine aGo ?_ | refine rP Ty_ok mixed 6 [0, 1, 5, 6] [.mid [pe 2, pe 3, pe 4, pe 7, pe 8, pe 9] 0, .one 10, .mid [pe 11, pe 12, pe 13, pe 14, pe 15, pe 16, pe 17, pe 18, pe 19, pe 20, pe 21, pe 22] 0, .one 23, .mid [pe 24, pe 25] 0] ?_); simp only [go_sem]) | ((with_reducible refine aCd ?_ ?_ (fun hb => ?_) (fun hb => ?_)); (iterate 2 simp only [go_sem]); all_goals (simp only [go_sem] at hb; try simp only [bls] at hb)) | ((iterate 6 try ((fail_if_success with_reducible refine hK _ ?_ ?_ ?_); clear hK K)); with_reducible refine hK _ ?_ ?_ ?_; rotate_left; (focus (simp only [go_sem]; exact rfl)); clear hK K) | (with_reducible refine aGs (fun hg0 => ?_) (fun hg0 => ?_) <;> first | (with_reducible first | exact aF1 hg0 | exact aF2 hg0) | (simp only [hg0, go_sem])) | (with_reducible refine aNk ?_; intro bnil hnil; try simp only []) | exact aZ | fail))
 ·have : xs ≠ ys := by rintro rfl; omega
  simp [this]
 refine awp_loop _ (by simp only [go_sem]; rfl) Nat (fun k => k ≤ xs.length ∧ decide (xs = ys) = decide (xs.drop k = ys.drop k)) (fun k => [(5, .one (.int .i64 k))]) (fun _ H => H) (fun k => xs.length - k) 0 ⟨by omega, by simp⟩ ?_ ?_
 ·(simp only [SubF, go_sem]; (try simp only [go_sem]); repeat' (first | exact True.intro | with_reducible refine And.intro ?_ ?_ | rfl | omega))
 ·rintro k ⟨hk, hres⟩ L hL
  by_cases hlt : k < xs.length
  ·have hg1 := stp_get hlt [.nil, .nil, .int .i64 0]
   have hg2 := stp_get (l := ys) (k := k) (by omega) [.nil, .nil, .int .i64 0]
   have hm := hs _ (getD_mem xs k Stp.no hlt)
   have h1 := SameInts_c (xs.getD k Stp.no).set (ys.getD k Stp.no).set hm.set
   have h2 := lSameCon_c (xs.getD k Stp.no).con (ys.getD k Stp.no).con hm.fac
   have hst := eqq_step (d := Stp.no) (by omega) (by omega) hres
   simp only [Con.d] at h2
   generalize xs.getD k Stp.no = x at *
   generalize ys.getD k Stp.no = y at *
   (simp only [go_sem] at hL ⊢)
   (repeat' (first | (with_reducible first | exact True.intro | refine And.intro ?_ ?_ | refine aBl ?_ | (refine aS 6 [] ?_; intro K hK)) | ((with_reducible first | refine aGo ?_ | refine rP Ty_ok mixed 6 [0, 1, 5, 6] [.mid [pe 2, pe 3, pe 4, pe 7, pe 8, pe 9] 0, .one 10, .mid [pe 11, pe 12, pe 13, pe 14, pe 15, pe 16, pe 17, pe 18, pe 19, pe 20, pe 21, pe 22] 0, .one 23, .mid [pe 24, pe 25] 0] ?_); simp only [hg1, hg2, go_sem]) | ((with_reducible refine aCd ?_ ?_ (fun hb => ?_) (fun hb => ?_)); (iterate 2 simp only [hg1, hg2, go_sem]); all_goals (simp only [hg1, hg2, go_sem] at hb; try simp only [bls] at hb)) | ((iterate 6 try ((fail_if_success with_reducible refine hK _ ?_ ?_ ?_); clear hK K)); with_reducible refine hK _ ?_ ?_ ?_; rotate_left; (focus (simp only [hg1, hg2, go_sem]; exact rfl)); clear hK K) | ((first | (with_reducible first | refine xA ?_ | refine xD ?_ | refine xO ?_ | refine xR ?_ | refine xG ?_ | refine xH ?_ | refine xM ?_) | ((with_reducible refine gA ?_); refine xA ?_) | ((with_reducible refine gD ?_); refine xD ?_) | ((with_reducible refine gG ?_); refine xG ?_)); simp only [hg1, hg2, go_sem]) | (with_reducible refine aGs (fun hg0 => ?_) (fun hg0 => ?_) <;> first | (with_reducible first | exact aF1 hg0 | exact aF2 hg0) | (simp only [hg0, hg1, hg2, go_sem])) | (with_reducible refine aNk ?_; intro bnil hnil; try simp only []) | exact aZ | fail))
   all_goals first | omega | exact fun h => ⟨h, by omega, by omega⟩ | skip
   ·have hxy : decide (x = y) = false := decide_eq_false fun e => by subst e; rcases hb with hb | hb <;> exact hb rfl
    rw [hst, hxy]; rfl
   ·have hxy : decide (x = y) = true := decide_eq_true (by
     obtain ⟨x1, x2⟩ := x
     obtain ⟨y1, y2⟩ := y
     obtain ⟨rfl, rfl⟩ := hb
     rfl)
    rw [hxy, Bool.true_and] at hst
    exact hL _ (k + 1) ⟨by omega, hst⟩ (by (simp only [SubF, go_sem]; (try simp only [go_sem]); repeat' (first | exact True.intro | with_reducible refine And.intro ?_ ?_ | rfl | omega))) (by omega)
  ·(simp only [go_sem] at hL ⊢)
   (repeat' (first | (with_reducible first | exact True.intro | refine And.intro ?_ ?_ | refine aBl ?_ | (refine aS 6 [] ?_; intro K hK)) | ((with_reducible first | refine aGo ?_ | refine rP Ty_ok mixed 6 [0, 1, 5, 6] [.mid [pe 2, pe 3, pe 4, pe 7, pe 8, pe 9] 0, .one 10, .mid [pe 11, pe 12, pe 13, pe 14, pe 15, pe 16, pe 17, pe 18, pe 19, pe 20, pe 21, pe 22] 0, .one 23, .mid [pe 24, pe 25] 0] ?_); simp only [go_sem]) | ((with_reducible refine aCd ?_ ?_ (fun hb => ?_) (fun hb => ?_)); (iterate 2 simp only [go_sem]); all_goals (simp only [go_sem] at hb; try simp only [bls] at hb)) | ((iterate 6 try ((fail_if_success with_reducible refine hK _ ?_ ?_ ?_); clear hK K)); with_reducible refine hK _ ?_ ?_ ?_; rotate_left; (focus (simp only [go_sem]; exact rfl)); clear hK K) | (with_reducible refine aGs (fun hg0 => ?_) (fun hg0 => ?_) <;> first | (with_reducible first | exact aF1 hg0 | exact aF2 hg0) | (simp only [hg0, go_sem])) | (with_reducible refine aNk ?_; intro bnil hnil; try simp only []) | exact aZ | fail))
   all_goals first | omega | skip
   rw [hres, drop_end xs k (by omega), drop_end ys k (by omega)]; rfl
set_option maxHeartbeats 4000000 in
theorem lControlled_c (n : Net) (u s : List Int) (h0 : n.init ≠ []) (hE : prE n u = 0) {nd : List SN} {ed : List Edg} (hb : bndF n = .inr (nd, ed)) (hs : s ∈ minL 1 n) (hul : u.length ≤ 1000000) :
  ACalls Tryz.prog 43 [.agg n.d, .one (.list (ints s)), .one (.list (ints u))] (.one (.bool (ctlB n u s))) [] := by
 obtain ⟨hn, hu⟩ := prE_ok hE
 have hok := netOk_of hn
 have hS := setOk_of hn hs
 have hsl := hS.len
 have hi := hok.init
 have hfl := facK_length n.init.length s
 have hC := lConstraint_c n.init.length s (by omega) (by omega)
 have hEm := Emptied_c n s hok.fits (fun _ => h0) (by omega)
 have hme := emX_ok hS hb
 have hT := Tokens_c n n.init s hok.fits (by omega) (by omega)
 have hm : markE n n.init = 0 := markE_of hok rfl fun x hx => hok.tok x hx
 have hte : tkE n n.init s = 0 := by rw [tkE, if_neg (by omega)]; exact hS.chk
 rw [tkV, hte, if_pos rfl] at hT
 have hA := Adm_ok n (kepC n.init.length s) u hok.fits (by simp only [kepC]; omega) hul (chk_kep hE)
 rw [ctlB]
 generalize raisingL n (kepC n.init.length s) u = R at *
 generalize emX n s = X at *
 obtain ⟨x1, x2, x3⟩ := X
 simp only at hme hEm
 subst hme
 simp only [Net.d, Con.d, kepC] at hEm hT hA hC
 simp only [kepC]
 generalize sumAt n.init s = Z at *
 (refine ACalls.of_body Ty_ok mixed Tryz.func43 rfl (by kernel_rfl) Tryz.ntmps43 (by simp) (congrArg Array.toList Tryz.results43) ?_)
 simp only [slotsOf, Net.d]
 (repeat' (first | (with_reducible first | exact True.intro | refine And.intro ?_ ?_ | refine aBl ?_ | (refine aS 8 [10, 12, 15, 9, 11, 14] ?_; intro K hK)) | ((with_reducible first | refine aGo ?_); simp only [go_sem]) | ((with_reducible refine aCd ?_ ?_ (fun hb => ?_) (fun hb => ?_)); (iterate 2 simp only [go_sem]); all_goals (simp only [go_sem] at hb; try simp only [bls] at hb)) | ((iterate 6 try ((fail_if_success with_reducible refine hK _ ?_ ?_ ?_); clear hK K)); with_reducible refine hK _ ?_ ?_ ?_; rotate_left; (focus (simp only [go_sem]; exact rfl)); clear hK K) | ((first | (with_reducible first | refine xA ?_ | refine xD ?_ | refine xO ?_ | refine xR ?_ | refine xG ?_ | refine xH ?_ | refine xM ?_) | ((with_reducible refine gA ?_); refine xA ?_) | ((with_reducible refine gD ?_); refine xD ?_) | ((with_reducible refine gG ?_); refine xG ?_)); simp only [go_sem]) | (with_reducible refine aGs (fun hg0 => ?_) (fun hg0 => ?_) <;> first | (with_reducible first | exact aF1 hg0 | exact aF2 hg0) | (simp only [hg0, go_sem])) | (with_reducible refine aNk ?_; intro bnil hnil; try simp only []) | exact aZ | fail))
 all_goals first | omega | skip
def nxL (n : Net) (u : List Int) : AV := match nextF n u with
 | none => .tup [.agg Stp.no.d, .one (.bool false)]
 | some s => .tup [.agg (stepOf n s).d, .one (.bool true)]
set_option maxHeartbeats 8000000 in
theorem lNext_c (n : Net) (u : List Int) (h0 : n.init ≠ []) (hE : prE n u = 0) {nd : List SN} {ed : List Edg} (hb : bndF n = .inr (nd, ed)) (hul : u.length ≤ 1000000) : ACalls Tryz.prog 14 [.agg n.d, .one (.list (ints u))] (nxL n u) [] := by
 obtain ⟨hn, hu⟩ := prE_ok hE
 have hok := netOk_of hn
 have hi10 := hok.init
 have hsi : siE n [] 1 = 0 := by rw [siE, if_neg (by omega), if_neg (by rw [show checkSet [] n.init.length = 0 from rfl]; decide), if_neg (by omega)]
 have hM := Minimal_c n 1 hok.fits fun _ => h0
 rw [hsi, if_pos rfl] at hM
 have hml := minL_length 1 n
 have hpow : 2 ^ n.init.length ≤ 1024 := Nat.le_trans (Nat.pow_le_pow_right (by omega) hi10) (by decide)
 generalize hR : nxL n u = R
 simp only [Net.d] at hM
 (refine ACalls.of_body Ty_ok mixed Tryz.func14 rfl (by kernel_rfl) Tryz.ntmps14 (by simp) (congrArg Array.toList Tryz.results14) ?_)
 simp only [slotsOf, Net.d]
 (repeat' (first | (with_reducible first | exact True.intro | refine And.intro ?_ ?_ | refine aBl ?_ | (refine aS 7 [8] ?_; intro K hK)) | ((with_reducible first | refine aGo ?_ | refine rP Ty_ok mixed 5 [1, 2, 5] [.mid [pe 0, pe 3, pe 4] 0, .one 6] ?_ | refine rP Ty_ok mixed 6 [0, 1, 4, 7, 8] [.mid [pe 2, pe 3, pe 5, pe 6, pe 9, pe 10, ⟨11, 0, true, false, false, [], []⟩, ⟨12, 1, false, false, false, [], []⟩] 1, .one 13, .one 14] ?_); simp only [go_sem]) | ((with_reducible refine aCd ?_ ?_ (fun hb => ?_) (fun hb => ?_)); (iterate 2 simp only [go_sem]); all_goals (simp only [go_sem] at hb; try simp only [bls] at hb)) | ((iterate 6 try ((fail_if_success with_reducible refine hK _ ?_ ?_ ?_); clear hK K)); with_reducible refine hK _ ?_ ?_ ?_; rotate_left; (focus (simp only [go_sem]; exact rfl)); clear hK K) | ((first | (with_reducible first | refine xA ?_ | refine xD ?_ | refine xO ?_ | refine xR ?_ | refine xG ?_ | refine xH ?_ | refine xM ?_) | ((with_reducible refine gA ?_); refine xA ?_) | ((with_reducible refine gD ?_); refine xD ?_) | ((with_reducible refine gG ?_); refine xG ?_)); simp only [go_sem]) | (with_reducible refine aGs (fun hg0 => ?_) (fun hg0 => ?_) <;> first | (with_reducible first | exact aF1 hg0 | exact aF2 hg0) | (simp only [hg0, go_sem])) | (with_reducible refine aNk ?_; intro bnil hnil; try simp only []) | exact aZ | fail))
 all_goals first | omega | skip
 refine awp_loop _ (by simp only [go_sem]; rfl) Nat (fun k => k ≤ (minL 1 n).length ∧ nextF n u = ((minL 1 n).drop k).find? (ctlB n u)) (fun k => [(8, .one (.int .i64 k))]) (fun _ H => H) (fun k => (minL 1 n).length - k) 0 ⟨Nat.zero_le _, rfl⟩ ?_ ?_
 ·(simp only [SubF, go_sem]; (try simp only [go_sem]); repeat' (first | exact True.intro | with_reducible refine And.intro ?_ ?_ | rfl | omega))
 rintro k ⟨hk, hnx⟩ L hL
 have hq : ((k : Nat) : Int).toNat = k := by omega
 by_cases hlt : k < (minL 1 n).length
 ·have hw := words_at (l := minL 1 n) hlt [.nil]
  have hmem := getD_mem (minL 1 n) k [] hlt
  have hst := find_step (d := []) hlt hnx
  have hS := setOk_of hn hmem
  have hsl := hS.len
  have hkp := lConstraint_c n.init.length ((minL 1 n).getD k []) (by omega) (by omega)
  have hct := lControlled_c n u ((minL 1 n).getD k []) h0 hE hb hmem hul
  generalize (minL 1 n).getD k [] = s at *
  simp only [Con.d, kepC] at hkp
  simp only [Net.d] at hct
  cases hcb : ctlB n u s with
  | true =>
   rw [hcb] at hct
   rw [hcb, if_pos rfl] at hst
   rw [nxL, hst] at hR
   simp only [stepOf, Stp.d, kepC] at hR
   subst hR
   (simp only [go_sem] at hL ⊢)
   (repeat' (first | (with_reducible first | exact True.intro | refine And.intro ?_ ?_ | refine aBl ?_ | (refine aS 7 [8] ?_; intro K hK)) | ((with_reducible first | refine aGo ?_ | refine rP Ty_ok mixed 5 [1, 2, 5] [.mid [pe 0, pe 3, pe 4] 0, .one 6] ?_ | refine rP Ty_ok mixed 6 [0, 1, 4, 7, 8] [.mid [pe 2, pe 3, pe 5, pe 6, pe 9, pe 10, ⟨11, 0, true, false, false, [], []⟩, ⟨12, 1, false, false, false, [], []⟩] 1, .one 13, .one 14] ?_); simp only [hw, hq, go_sem]) | ((with_reducible refine aCd ?_ ?_ (fun hb => ?_) (fun hb => ?_)); (iterate 2 simp only [hw, hq, go_sem]); all_goals (simp only [hw, hq, go_sem] at hb; try simp only [bls] at hb)) | ((iterate 6 try ((fail_if_success with_reducible refine hK _ ?_ ?_ ?_); clear hK K)); with_reducible refine hK _ ?_ ?_ ?_; rotate_left; (focus (simp only [hw, hq, go_sem]; exact rfl)); clear hK K) | ((first | (with_reducible first | refine xA ?_ | refine xD ?_ | refine xO ?_ | refine xR ?_ | refine xG ?_ | refine xH ?_ | refine xM ?_) | ((with_reducible refine gA ?_); refine xA ?_) | ((with_reducible refine gD ?_); refine xD ?_) | ((with_reducible refine gG ?_); refine xG ?_)); simp only [hw, hq, go_sem]) | (with_reducible refine aGs (fun hg0 => ?_) (fun hg0 => ?_) <;> first | (with_reducible first | exact aF1 hg0 | exact aF2 hg0) | (simp only [hg0, hw, hq, go_sem])) | (with_reducible refine aNk ?_; intro bnil hnil; try simp only []) | exact aZ | fail))
   all_goals first | omega | skip
  | false =>
   rw [hcb] at hct
   rw [hcb, if_neg (by decide)] at hst
   (simp only [go_sem] at hL ⊢)
   (repeat' (first | (with_reducible first | exact True.intro | refine And.intro ?_ ?_ | refine aBl ?_ | (refine aS 7 [8] ?_; intro K hK)) | ((with_reducible first | refine aGo ?_ | refine rP Ty_ok mixed 5 [1, 2, 5] [.mid [pe 0, pe 3, pe 4] 0, .one 6] ?_ | refine rP Ty_ok mixed 6 [0, 1, 4, 7, 8] [.mid [pe 2, pe 3, pe 5, pe 6, pe 9, pe 10, ⟨11, 0, true, false, false, [], []⟩, ⟨12, 1, false, false, false, [], []⟩] 1, .one 13, .one 14] ?_); simp only [hw, hq, go_sem]) | ((with_reducible refine aCd ?_ ?_ (fun hb => ?_) (fun hb => ?_)); (iterate 2 simp only [hw, hq, go_sem]); all_goals (simp only [hw, hq, go_sem] at hb; try simp only [bls] at hb)) | ((iterate 6 try ((fail_if_success with_reducible refine hK _ ?_ ?_ ?_); clear hK K)); with_reducible refine hK _ ?_ ?_ ?_; rotate_left; (focus (simp only [hw, hq, go_sem]; exact rfl)); clear hK K) | ((first | (with_reducible first | refine xA ?_ | refine xD ?_ | refine xO ?_ | refine xR ?_ | refine xG ?_ | refine xH ?_ | refine xM ?_) | ((with_reducible refine gA ?_); refine xA ?_) | ((with_reducible refine gD ?_); refine xD ?_) | ((with_reducible refine gG ?_); refine xG ?_)); simp only [hw, hq, go_sem]) | (with_reducible refine aGs (fun hg0 => ?_) (fun hg0 => ?_) <;> first | (with_reducible first | exact aF1 hg0 | exact aF2 hg0) | (simp only [hg0, hw, hq, go_sem])) | (with_reducible refine aNk ?_; intro bnil hnil; try simp only []) | exact aZ | fail))
   all_goals first | omega | skip
   exact hL _ (k + 1) ⟨by omega, hst⟩ (by (simp only [SubF, go_sem]; (try simp only [go_sem]); repeat' (first | exact True.intro | with_reducible refine And.intro ?_ ?_ | rfl | omega))) (by omega)
 ·rw [drop_end _ k (by omega), List.find?_nil] at hnx
  rw [nxL, hnx] at hR
  simp only [stpNo_d] at hR
  subst hR
  (simp only [go_sem] at hL ⊢)
  (repeat' (first | (with_reducible first | exact True.intro | refine And.intro ?_ ?_ | refine aBl ?_ | (refine aS 7 [8] ?_; intro K hK)) | ((with_reducible first | refine aGo ?_ | refine rP Ty_ok mixed 5 [1, 2, 5] [.mid [pe 0, pe 3, pe 4] 0, .one 6] ?_ | refine rP Ty_ok mixed 6 [0, 1, 4, 7, 8] [.mid [pe 2, pe 3, pe 5, pe 6, pe 9, pe 10, ⟨11, 0, true, false, false, [], []⟩, ⟨12, 1, false, false, false, [], []⟩] 1, .one 13, .one 14] ?_); simp only [go_sem]) | ((with_reducible refine aCd ?_ ?_ (fun hb => ?_) (fun hb => ?_)); (iterate 2 simp only [go_sem]); all_goals (simp only [go_sem] at hb; try simp only [bls] at hb)) | ((iterate 6 try ((fail_if_success with_reducible refine hK _ ?_ ?_ ?_); clear hK K)); with_reducible refine hK _ ?_ ?_ ?_; rotate_left; (focus (simp only [go_sem]; exact rfl)); clear hK K) | (with_reducible refine aGs (fun hg0 => ?_) (fun hg0 => ?_) <;> first | (with_reducible first | exact aF1 hg0 | exact aF2 hg0) | (simp only [hg0, go_sem])) | (with_reducible refine aNk ?_; intro bnil hnil; try simp only []) | exact aZ | fail))
  all_goals first | omega | skip
def lpR : POut → AV
 | .err e => .tup [.agg res0, .one (.list []), .one (.int .i64 e)]
 | .ok st m => .tup [.agg (resD st m), .one (.list []), .one (.int .i64 0)]
 | .dead st m run => .tup [.agg (resD st m), .one (.list (ints run)), .one (.int .i64 20)]
set_option maxHeartbeats 32000000 in
theorem lPrevent_c (n : Net) (u : List Int) (h0 : n.init ≠ []) (hE : prE n u = 0) (hul : u.length ≤ 1000000) : ACalls Tryz.prog 25 [.agg n.d, .one (.list (ints u))] (lpR (prevR n u)) [] := by
 obtain ⟨hn, hu⟩ := prE_ok hE
 have hok := netOk_of hn
 have hi10 := hok.init
 have ePR : prO n u = prevR n u := by rw [prO, if_neg (by omega)]
 have hRnd : Rnd n u [] n (prevR n u) := ⟨hn, hE, h0, by simp, rfl⟩
 clear ePR
 generalize prevR n u = R at *
 (refine ACalls.of_body Ty_ok mixed Tryz.func25 rfl (by kernel_rfl) Tryz.ntmps25 (by simp) (congrArg Array.toList Tryz.results25) ?_)
 simp only [slotsOf, Net.d]
 (repeat' (first | (with_reducible first | exact True.intro | refine And.intro ?_ ?_ | refine aBl ?_ | (refine aS 7 [9, 11, 14, 10, 16, 13, 15] ?_; intro K hK)) | ((with_reducible first | refine aGo ?_ | refine rO Ty_ok mixed 14 [0] (.alt 1 (.alt 2 (.alt 3 (.alt 4 (.alt 5 (.alt 6 (.alt 7 (.alt 8 (.alt 9 .leaf .nil) .nil) .nil) .nil) (.alt 6 (.alt 5 (.alt 7 (.alt 8 (.alt 9 .leaf .nil) .nil) .nil) (.alt 7 (.alt 5 (.alt 8 (.alt 9 .leaf .nil) .nil) .nil) .nil)) .nil)) (.alt 5 (.alt 4 (.alt 6 (.alt 7 (.alt 8 (.alt 9 .leaf .nil) .nil) .nil) .nil) .nil) .nil)) (.alt 5 (.alt 3 (.alt 4 (.alt 6 (.alt 7 (.alt 8 (.alt 9 .leaf .nil) .nil) .nil) .nil) .nil) .nil) .nil)) (.alt 5 (.alt 2 (.alt 3 (.alt 4 (.alt 6 (.alt 7 (.alt 8 (.alt 9 .leaf .nil) .nil) .nil) .nil) .nil) .nil) .nil) .nil)) (.alt 2 (.alt 1 (.alt 3 (.alt 4 (.alt 5 (.alt 6 (.alt 7 (.alt 8 (.alt 9 .leaf .nil) .nil) .nil) .nil) (.alt 6 (.alt 5 (.alt 7 (.alt 8 (.alt 9 .leaf .nil) .nil) .nil) (.alt 7 (.alt 5 (.alt 8 (.alt 9 .leaf .nil) .nil) .nil) .nil)) .nil)) (.alt 5 (.alt 4 (.alt 6 (.alt 7 (.alt 8 (.alt 9 .leaf .nil) .nil) .nil) .nil) .nil) .nil)) (.alt 5 (.alt 3 (.alt 4 (.alt 6 (.alt 7 (.alt 8 (.alt 9 .leaf .nil) .nil) .nil) .nil) .nil) .nil) .nil)) (.alt 3 (.alt 1 (.alt 4 (.alt 5 (.alt 6 (.alt 7 (.alt 8 (.alt 9 .leaf .nil) .nil) .nil) .nil) (.alt 6 (.alt 5 (.alt 7 (.alt 8 (.alt 9 .leaf .nil) .nil) .nil) (.alt 7 (.alt 5 (.alt 8 (.alt 9 .leaf .nil) .nil) .nil) .nil)) .nil)) (.alt 5 (.alt 4 (.alt 6 (.alt 7 (.alt 8 (.alt 9 .leaf .nil) .nil) .nil) .nil) .nil) .nil)) (.alt 5 (.alt 1 (.alt 4 (.alt 6 (.alt 7 (.alt 8 (.alt 9 .leaf .nil) .nil) .nil) .nil) .nil) .nil) .nil)) (.alt 5 (.alt 1 (.alt 3 (.alt 4 (.alt 6 (.alt 7 (.alt 8 (.alt 9 .leaf .nil) .nil) .nil) .nil) .nil) .nil) (.alt 3 (.alt 1 (.alt 4 (.alt 6 (.alt 7 (.alt 8 (.alt 9 .leaf .nil) .nil) .nil) .nil) .nil) .nil) .nil)) .nil))) (.alt 5 (.alt 1 (.alt 2 (.alt 3 (.alt 4 (.alt 6 (.alt 7 (.alt 8 (.alt 9 .leaf .nil) .nil) .nil) .nil) .nil) .nil) .nil) (.alt 2 (.alt 1 (.alt 3 (.alt 4 (.alt 6 (.alt 7 (.alt 8 (.alt 9 .leaf .nil) .nil) .nil) .nil) .nil) .nil) (.alt 3 (.alt 1 (.alt 4 (.alt 6 (.alt 7 (.alt 8 (.alt 9 .leaf .nil) .nil) .nil) .nil) .nil) .nil) .nil)) .nil)) .nil))) [] 9 ?_); simp only [go_sem]) | ((with_reducible refine aCd ?_ ?_ (fun hb => ?_) (fun hb => ?_)); (iterate 2 simp only [go_sem]); all_goals (simp only [go_sem] at hb; try simp only [bls] at hb)) | ((iterate 6 try ((fail_if_success with_reducible refine hK _ ?_ ?_ ?_); clear hK K)); with_reducible refine hK _ ?_ ?_ ?_; rotate_left; (focus (simp only [go_sem]; exact rfl)); clear hK K) | (with_reducible refine aGs (fun hg0 => ?_) (fun hg0 => ?_) <;> first | (with_reducible first | exact aF1 hg0 | exact aF2 hg0) | (simp only [hg0, go_sem])) | (with_reducible refine aNk ?_; intro bnil hnil; try simp only []) | exact aZ | fail))
 all_goals first | omega | skip
 refine awp_loopT [.cell 1 0 40 3] _ (by simp only [go_sem]; rfl) (List Stp × Net) (fun x => Rnd n u x.1 x.2 R) (fun x => []) (fun x => [.var 33 [.list (ints n.init), .list (trsD n.trs)], .var 55 [.own 3, .list (ints x.2.init), .list (trsD x.2.trs)], .gone, .row 40 3 (stpD x.1)]) (fun x => 12 - x.2.init.length) ([], n) hRnd ?_ ?_
 ·have e0 : stpD [] = [] := rfl
  rw [e0]
  (simp only [SubF, go_sem]; (try simp only [go_sem]); repeat' (first | exact True.intro | with_reducible refine And.intro ?_ ?_ | rfl | omega))
 rintro ⟨st, m⟩ hr L hL
 simp only at hr hL ⊢
 have hokm := netOk_of hr.net
 have hm10 := hokm.init
 have hmt := hokm.trs
 have hlen := hr.len
 have hG := Graph_c m hokm.fits hr.ne fun nd ed h => by
  obtain ⟨_, q2, q3⟩ := bnd_ok h
  exact ⟨q3, fun x hx => by have := q2.len x hx; omega⟩
 have hD := Deadlock_c m hokm.fits hr.ne
 have hnz := fun e => bnd_ne (n := m) (e := e)
 have hrun := hr.run
 rw [show 11 - m.init.length = (10 - m.init.length) + 1 by omega] at hrun
 cases hb : bndF m with
 | inl e' =>
  have hnz := hnz e' hb
  rw [prevF_bad hb] at hrun
  subst hrun
  rw [hb] at hG
  simp only [grR, Net.d] at hG
  simp only [lpR, res0]
  (simp only [go_sem] at hL ⊢)
  (repeat' (first | (with_reducible first | exact True.intro | refine And.intro ?_ ?_ | refine aBl ?_ | (refine aS 7 [9, 11, 14, 10, 16, 13, 15] ?_; intro K hK)) | ((with_reducible first | refine aGo ?_ | refine rO Ty_ok mixed 14 [0] (.alt 1 (.alt 2 (.alt 3 (.alt 4 (.alt 5 (.alt 6 (.alt 7 (.alt 8 (.alt 9 .leaf .nil) .nil) .nil) .nil) (.alt 6 (.alt 5 (.alt 7 (.alt 8 (.alt 9 .leaf .nil) .nil) .nil) (.alt 7 (.alt 5 (.alt 8 (.alt 9 .leaf .nil) .nil) .nil) .nil)) .nil)) (.alt 5 (.alt 4 (.alt 6 (.alt 7 (.alt 8 (.alt 9 .leaf .nil) .nil) .nil) .nil) .nil) .nil)) (.alt 5 (.alt 3 (.alt 4 (.alt 6 (.alt 7 (.alt 8 (.alt 9 .leaf .nil) .nil) .nil) .nil) .nil) .nil) .nil)) (.alt 5 (.alt 2 (.alt 3 (.alt 4 (.alt 6 (.alt 7 (.alt 8 (.alt 9 .leaf .nil) .nil) .nil) .nil) .nil) .nil) .nil) .nil)) (.alt 2 (.alt 1 (.alt 3 (.alt 4 (.alt 5 (.alt 6 (.alt 7 (.alt 8 (.alt 9 .leaf .nil) .nil) .nil) .nil) (.alt 6 (.alt 5 (.alt 7 (.alt 8 (.alt 9 .leaf .nil) .nil) .nil) (.alt 7 (.alt 5 (.alt 8 (.alt 9 .leaf .nil) .nil) .nil) .nil)) .nil)) (.alt 5 (.alt 4 (.alt 6 (.alt 7 (.alt 8 (.alt 9 .leaf .nil) .nil) .nil) .nil) .nil) .nil)) (.alt 5 (.alt 3 (.alt 4 (.alt 6 (.alt 7 (.alt 8 (.alt 9 .leaf .nil) .nil) .nil) .nil) .nil) .nil) .nil)) (.alt 3 (.alt 1 (.alt 4 (.alt 5 (.alt 6 (.alt 7 (.alt 8 (.alt 9 .leaf .nil) .nil) .nil) .nil) (.alt 6 (.alt 5 (.alt 7 (.alt 8 (.alt 9 .leaf .nil) .nil) .nil) (.alt 7 (.alt 5 (.alt 8 (.alt 9 .leaf .nil) .nil) .nil) .nil)) .nil)) (.alt 5 (.alt 4 (.alt 6 (.alt 7 (.alt 8 (.alt 9 .leaf .nil) .nil) .nil) .nil) .nil) .nil)) (.alt 5 (.alt 1 (.alt 4 (.alt 6 (.alt 7 (.alt 8 (.alt 9 .leaf .nil) .nil) .nil) .nil) .nil) .nil) .nil)) (.alt 5 (.alt 1 (.alt 3 (.alt 4 (.alt 6 (.alt 7 (.alt 8 (.alt 9 .leaf .nil) .nil) .nil) .nil) .nil) .nil) (.alt 3 (.alt 1 (.alt 4 (.alt 6 (.alt 7 (.alt 8 (.alt 9 .leaf .nil) .nil) .nil) .nil) .nil) .nil) .nil)) .nil))) (.alt 5 (.alt 1 (.alt 2 (.alt 3 (.alt 4 (.alt 6 (.alt 7 (.alt 8 (.alt 9 .leaf .nil) .nil) .nil) .nil) .nil) .nil) .nil) (.alt 2 (.alt 1 (.alt 3 (.alt 4 (.alt 6 (.alt 7 (.alt 8 (.alt 9 .leaf .nil) .nil) .nil) .nil) .nil) .nil) (.alt 3 (.alt 1 (.alt 4 (.alt 6 (.alt 7 (.alt 8 (.alt 9 .leaf .nil) .nil) .nil) .nil) .nil) .nil) .nil)) .nil)) .nil))) [] 9 ?_); simp only [go_sem]) | ((with_reducible refine aCd ?_ ?_ (fun hb => ?_) (fun hb => ?_)); (iterate 2 simp only [go_sem]); all_goals (simp only [go_sem] at hb; try simp only [bls] at hb)) | ((iterate 6 try ((fail_if_success with_reducible refine hK _ ?_ ?_ ?_); clear hK K)); with_reducible refine hK _ ?_ ?_ ?_; rotate_left; (focus (simp only [go_sem]; exact rfl)); clear hK K) | ((first | (with_reducible first | refine xA ?_ | refine xD ?_ | refine xO ?_ | refine xR ?_ | refine xG ?_ | refine xH ?_ | refine xM ?_) | ((with_reducible refine gA ?_); refine xA ?_) | ((with_reducible refine gD ?_); refine xD ?_) | ((with_reducible refine gG ?_); refine xG ?_)); simp only [go_sem]) | (with_reducible refine aGs (fun hg0 => ?_) (fun hg0 => ?_) <;> first | (with_reducible first | exact aF1 hg0 | exact aF2 hg0) | (simp only [hg0, go_sem])) | (with_reducible refine aNk ?_; intro bnil hnil; try simp only []) | exact aZ | fail))
  all_goals first | omega | skip
 | inr r =>
  obtain ⟨nd, ed⟩ := r
  have hN := lNext_c m u hr.ne hr.chk hb hul
  rw [hb] at hG hD
  simp only [grR, Net.d] at hG
  simp only [dlR] at hD
  rw [nxL] at hN
  by_cases hd : 0 ≤ deadFrom m nd 0
  ·rw [if_pos hd] at hD
   cases hx : nextF m u with
   | none =>
    rw [prevF_dead hb (by omega) hx] at hrun
    subst hrun
    rw [hx] at hN
    simp only [stpNo_d] at hN
    simp only [Net.d] at hD hN
    simp only [lpR, resD]
    generalize pathF nd (deadFrom m nd 0) = W at *
    generalize wordsD (nd.map SN.m) = Z at *
    (simp only [go_sem] at hL ⊢)
    (repeat' (first | (with_reducible first | exact True.intro | refine And.intro ?_ ?_ | refine aBl ?_ | (refine aS 7 [9, 11, 14, 10, 16, 13, 15] ?_; intro K hK)) | ((with_reducible first | refine aGo ?_ | refine rO Ty_ok mixed 14 [0] (.alt 1 (.alt 2 (.alt 3 (.alt 4 (.alt 5 (.alt 6 (.alt 7 (.alt 8 (.alt 9 .leaf .nil) .nil) .nil) .nil) (.alt 6 (.alt 5 (.alt 7 (.alt 8 (.alt 9 .leaf .nil) .nil) .nil) (.alt 7 (.alt 5 (.alt 8 (.alt 9 .leaf .nil) .nil) .nil) .nil)) .nil)) (.alt 5 (.alt 4 (.alt 6 (.alt 7 (.alt 8 (.alt 9 .leaf .nil) .nil) .nil) .nil) .nil) .nil)) (.alt 5 (.alt 3 (.alt 4 (.alt 6 (.alt 7 (.alt 8 (.alt 9 .leaf .nil) .nil) .nil) .nil) .nil) .nil) .nil)) (.alt 5 (.alt 2 (.alt 3 (.alt 4 (.alt 6 (.alt 7 (.alt 8 (.alt 9 .leaf .nil) .nil) .nil) .nil) .nil) .nil) .nil) .nil)) (.alt 2 (.alt 1 (.alt 3 (.alt 4 (.alt 5 (.alt 6 (.alt 7 (.alt 8 (.alt 9 .leaf .nil) .nil) .nil) .nil) (.alt 6 (.alt 5 (.alt 7 (.alt 8 (.alt 9 .leaf .nil) .nil) .nil) (.alt 7 (.alt 5 (.alt 8 (.alt 9 .leaf .nil) .nil) .nil) .nil)) .nil)) (.alt 5 (.alt 4 (.alt 6 (.alt 7 (.alt 8 (.alt 9 .leaf .nil) .nil) .nil) .nil) .nil) .nil)) (.alt 5 (.alt 3 (.alt 4 (.alt 6 (.alt 7 (.alt 8 (.alt 9 .leaf .nil) .nil) .nil) .nil) .nil) .nil) .nil)) (.alt 3 (.alt 1 (.alt 4 (.alt 5 (.alt 6 (.alt 7 (.alt 8 (.alt 9 .leaf .nil) .nil) .nil) .nil) (.alt 6 (.alt 5 (.alt 7 (.alt 8 (.alt 9 .leaf .nil) .nil) .nil) (.alt 7 (.alt 5 (.alt 8 (.alt 9 .leaf .nil) .nil) .nil) .nil)) .nil)) (.alt 5 (.alt 4 (.alt 6 (.alt 7 (.alt 8 (.alt 9 .leaf .nil) .nil) .nil) .nil) .nil) .nil)) (.alt 5 (.alt 1 (.alt 4 (.alt 6 (.alt 7 (.alt 8 (.alt 9 .leaf .nil) .nil) .nil) .nil) .nil) .nil) .nil)) (.alt 5 (.alt 1 (.alt 3 (.alt 4 (.alt 6 (.alt 7 (.alt 8 (.alt 9 .leaf .nil) .nil) .nil) .nil) .nil) .nil) (.alt 3 (.alt 1 (.alt 4 (.alt 6 (.alt 7 (.alt 8 (.alt 9 .leaf .nil) .nil) .nil) .nil) .nil) .nil) .nil)) .nil))) (.alt 5 (.alt 1 (.alt 2 (.alt 3 (.alt 4 (.alt 6 (.alt 7 (.alt 8 (.alt 9 .leaf .nil) .nil) .nil) .nil) .nil) .nil) .nil) (.alt 2 (.alt 1 (.alt 3 (.alt 4 (.alt 6 (.alt 7 (.alt 8 (.alt 9 .leaf .nil) .nil) .nil) .nil) .nil) .nil) (.alt 3 (.alt 1 (.alt 4 (.alt 6 (.alt 7 (.alt 8 (.alt 9 .leaf .nil) .nil) .nil) .nil) .nil) .nil) .nil)) .nil)) .nil))) [] 9 ?_); simp only [go_sem]) | ((with_reducible refine aCd ?_ ?_ (fun hb => ?_) (fun hb => ?_)); (iterate 2 simp only [go_sem]); all_goals (simp only [go_sem] at hb; try simp only [bls] at hb)) | ((iterate 6 try ((fail_if_success with_reducible refine hK _ ?_ ?_ ?_); clear hK K)); with_reducible refine hK _ ?_ ?_ ?_; rotate_left; (focus (simp only [go_sem]; exact rfl)); clear hK K) | ((first | (with_reducible first | refine xA ?_ | refine xD ?_ | refine xO ?_ | refine xR ?_ | refine xG ?_ | refine xH ?_ | refine xM ?_) | ((with_reducible refine gA ?_); refine xA ?_) | ((with_reducible refine gD ?_); refine xD ?_) | ((with_reducible refine gG ?_); refine xG ?_)); simp only [go_sem]) | (with_reducible refine aGs (fun hg0 => ?_) (fun hg0 => ?_) <;> first | (with_reducible first | exact aF1 hg0 | exact aF2 hg0) | (simp only [hg0, go_sem])) | (with_reducible refine aNk ?_; intro bnil hnil; try simp only []) | exact aZ | fail))
    all_goals first | omega | skip
   | some s =>
    rw [hx] at hN
    have hkl := facK_length m.init.length s
    have hMo := Monitor_c m (kepC m.init.length s) hokm.fits (by simp only [kepC]; omega)
    by_cases hme : monE m (kepC m.init.length s) = 0
    ·have hnext := hr.next hb hd hx hme
     have hml : monL m (kepC m.init.length s) = monNet m (kepC m.init.length s) := by rw [monL, if_pos hme]
     have hil := mon_init (n := m) (c := kepC m.init.length s)
     rw [hme, hml] at hMo
     have est : stepOf m s = ⟨s, kepC m.init.length s⟩ := rfl
     rw [est] at hnext
     generalize monNet m (kepC m.init.length s) = m2 at *
     simp only [stepOf, Stp.d, kepC] at hN
     simp only [Net.d, Con.d, kepC] at hD hN hMo
     simp only [kepC] at hnext
     generalize pathF nd (deadFrom m nd 0) = W at *
     generalize wordsD (nd.map SN.m) = Z at *
     generalize facK m.init.length s = fk at *
     have hL2 := fun σ' hs => hL σ' (st ++ [⟨s, ⟨fk, -1⟩⟩], m2) hnext hs (by simp only; omega)
     (simp only [go_sem] at hL ⊢)
     (repeat' (first | (with_reducible first | exact True.intro | refine And.intro ?_ ?_ | refine aBl ?_ | (refine aS 7 [9, 11, 14, 10, 16, 13, 15] ?_; intro K hK)) | ((with_reducible first | refine aGo ?_ | refine rO Ty_ok mixed 14 [0] (.alt 1 (.alt 2 (.alt 3 (.alt 4 (.alt 5 (.alt 6 (.alt 7 (.alt 8 (.alt 9 .leaf .nil) .nil) .nil) .nil) (.alt 6 (.alt 5 (.alt 7 (.alt 8 (.alt 9 .leaf .nil) .nil) .nil) (.alt 7 (.alt 5 (.alt 8 (.alt 9 .leaf .nil) .nil) .nil) .nil)) .nil)) (.alt 5 (.alt 4 (.alt 6 (.alt 7 (.alt 8 (.alt 9 .leaf .nil) .nil) .nil) .nil) .nil) .nil)) (.alt 5 (.alt 3 (.alt 4 (.alt 6 (.alt 7 (.alt 8 (.alt 9 .leaf .nil) .nil) .nil) .nil) .nil) .nil) .nil)) (.alt 5 (.alt 2 (.alt 3 (.alt 4 (.alt 6 (.alt 7 (.alt 8 (.alt 9 .leaf .nil) .nil) .nil) .nil) .nil) .nil) .nil) .nil)) (.alt 2 (.alt 1 (.alt 3 (.alt 4 (.alt 5 (.alt 6 (.alt 7 (.alt 8 (.alt 9 .leaf .nil) .nil) .nil) .nil) (.alt 6 (.alt 5 (.alt 7 (.alt 8 (.alt 9 .leaf .nil) .nil) .nil) (.alt 7 (.alt 5 (.alt 8 (.alt 9 .leaf .nil) .nil) .nil) .nil)) .nil)) (.alt 5 (.alt 4 (.alt 6 (.alt 7 (.alt 8 (.alt 9 .leaf .nil) .nil) .nil) .nil) .nil) .nil)) (.alt 5 (.alt 3 (.alt 4 (.alt 6 (.alt 7 (.alt 8 (.alt 9 .leaf .nil) .nil) .nil) .nil) .nil) .nil) .nil)) (.alt 3 (.alt 1 (.alt 4 (.alt 5 (.alt 6 (.alt 7 (.alt 8 (.alt 9 .leaf .nil) .nil) .nil) .nil) (.alt 6 (.alt 5 (.alt 7 (.alt 8 (.alt 9 .leaf .nil) .nil) .nil) (.alt 7 (.alt 5 (.alt 8 (.alt 9 .leaf .nil) .nil) .nil) .nil)) .nil)) (.alt 5 (.alt 4 (.alt 6 (.alt 7 (.alt 8 (.alt 9 .leaf .nil) .nil) .nil) .nil) .nil) .nil)) (.alt 5 (.alt 1 (.alt 4 (.alt 6 (.alt 7 (.alt 8 (.alt 9 .leaf .nil) .nil) .nil) .nil) .nil) .nil) .nil)) (.alt 5 (.alt 1 (.alt 3 (.alt 4 (.alt 6 (.alt 7 (.alt 8 (.alt 9 .leaf .nil) .nil) .nil) .nil) .nil) .nil) (.alt 3 (.alt 1 (.alt 4 (.alt 6 (.alt 7 (.alt 8 (.alt 9 .leaf .nil) .nil) .nil) .nil) .nil) .nil) .nil)) .nil))) (.alt 5 (.alt 1 (.alt 2 (.alt 3 (.alt 4 (.alt 6 (.alt 7 (.alt 8 (.alt 9 .leaf .nil) .nil) .nil) .nil) .nil) .nil) .nil) (.alt 2 (.alt 1 (.alt 3 (.alt 4 (.alt 6 (.alt 7 (.alt 8 (.alt 9 .leaf .nil) .nil) .nil) .nil) .nil) .nil) (.alt 3 (.alt 1 (.alt 4 (.alt 6 (.alt 7 (.alt 8 (.alt 9 .leaf .nil) .nil) .nil) .nil) .nil) .nil) .nil)) .nil)) .nil))) [] 9 ?_); simp only [go_sem]) | ((with_reducible refine aCd ?_ ?_ (fun hb => ?_) (fun hb => ?_)); (iterate 2 simp only [go_sem]); all_goals (simp only [go_sem] at hb; try simp only [bls] at hb)) | ((iterate 6 try ((fail_if_success with_reducible refine hK _ ?_ ?_ ?_); clear hK K)); with_reducible refine hK _ ?_ ?_ ?_; rotate_left; (focus (simp only [go_sem]; exact rfl)); clear hK K) | ((first | (with_reducible first | refine xA ?_ | refine xD ?_ | refine xO ?_ | refine xR ?_ | refine xG ?_ | refine xH ?_ | refine xM ?_) | ((with_reducible refine gA ?_); refine xA ?_) | ((with_reducible refine gD ?_); refine xD ?_) | ((with_reducible refine gG ?_); refine xG ?_)); simp only [go_sem]) | (with_reducible refine aGs (fun hg0 => ?_) (fun hg0 => ?_) <;> first | (with_reducible first | exact aF1 hg0 | exact aF2 hg0) | (simp only [hg0, go_sem])) | (with_reducible refine aNk ?_; intro bnil hnil; try simp only []) | exact aZ | fail))
     all_goals first | omega | skip
     all_goals
      rw [stp_one, stp_append]
      exact hL2 _ (by (simp only [SubF, go_sem]; (try simp only [go_sem]); repeat' (first | exact True.intro | with_reducible refine And.intro ?_ ?_ | rfl | omega)))
    ·rw [prevF_mon hb hd hx hme] at hrun
     have hmz : monL m (kepC m.init.length s) = Net.zero := by rw [monL, if_neg hme]
     rw [hmz] at hMo
     generalize monE m (kepC m.init.length s) = q at *
     subst hrun
     simp only [stepOf, Stp.d, kepC] at hN
     simp only [Net.d, Con.d, kepC, Net.zero] at hD hN hMo
     simp only [lpR, res0]
     generalize pathF nd (deadFrom m nd 0) = W at *
     generalize wordsD (nd.map SN.m) = Z at *
     generalize facK m.init.length s = fk at *
     (simp only [go_sem] at hL ⊢)
     (repeat' (first | (with_reducible first | exact True.intro | refine And.intro ?_ ?_ | refine aBl ?_ | (refine aS 7 [9, 11, 14, 10, 16, 13, 15] ?_; intro K hK)) | ((with_reducible first | refine aGo ?_ | refine rO Ty_ok mixed 14 [0] (.alt 1 (.alt 2 (.alt 3 (.alt 4 (.alt 5 (.alt 6 (.alt 7 (.alt 8 (.alt 9 .leaf .nil) .nil) .nil) .nil) (.alt 6 (.alt 5 (.alt 7 (.alt 8 (.alt 9 .leaf .nil) .nil) .nil) (.alt 7 (.alt 5 (.alt 8 (.alt 9 .leaf .nil) .nil) .nil) .nil)) .nil)) (.alt 5 (.alt 4 (.alt 6 (.alt 7 (.alt 8 (.alt 9 .leaf .nil) .nil) .nil) .nil) .nil) .nil)) (.alt 5 (.alt 3 (.alt 4 (.alt 6 (.alt 7 (.alt 8 (.alt 9 .leaf .nil) .nil) .nil) .nil) .nil) .nil) .nil)) (.alt 5 (.alt 2 (.alt 3 (.alt 4 (.alt 6 (.alt 7 (.alt 8 (.alt 9 .leaf .nil) .nil) .nil) .nil) .nil) .nil) .nil) .nil)) (.alt 2 (.alt 1 (.alt 3 (.alt 4 (.alt 5 (.alt 6 (.alt 7 (.alt 8 (.alt 9 .leaf .nil) .nil) .nil) .nil) (.alt 6 (.alt 5 (.alt 7 (.alt 8 (.alt 9 .leaf .nil) .nil) .nil) (.alt 7 (.alt 5 (.alt 8 (.alt 9 .leaf .nil) .nil) .nil) .nil)) .nil)) (.alt 5 (.alt 4 (.alt 6 (.alt 7 (.alt 8 (.alt 9 .leaf .nil) .nil) .nil) .nil) .nil) .nil)) (.alt 5 (.alt 3 (.alt 4 (.alt 6 (.alt 7 (.alt 8 (.alt 9 .leaf .nil) .nil) .nil) .nil) .nil) .nil) .nil)) (.alt 3 (.alt 1 (.alt 4 (.alt 5 (.alt 6 (.alt 7 (.alt 8 (.alt 9 .leaf .nil) .nil) .nil) .nil) (.alt 6 (.alt 5 (.alt 7 (.alt 8 (.alt 9 .leaf .nil) .nil) .nil) (.alt 7 (.alt 5 (.alt 8 (.alt 9 .leaf .nil) .nil) .nil) .nil)) .nil)) (.alt 5 (.alt 4 (.alt 6 (.alt 7 (.alt 8 (.alt 9 .leaf .nil) .nil) .nil) .nil) .nil) .nil)) (.alt 5 (.alt 1 (.alt 4 (.alt 6 (.alt 7 (.alt 8 (.alt 9 .leaf .nil) .nil) .nil) .nil) .nil) .nil) .nil)) (.alt 5 (.alt 1 (.alt 3 (.alt 4 (.alt 6 (.alt 7 (.alt 8 (.alt 9 .leaf .nil) .nil) .nil) .nil) .nil) .nil) (.alt 3 (.alt 1 (.alt 4 (.alt 6 (.alt 7 (.alt 8 (.alt 9 .leaf .nil) .nil) .nil) .nil) .nil) .nil) .nil)) .nil))) (.alt 5 (.alt 1 (.alt 2 (.alt 3 (.alt 4 (.alt 6 (.alt 7 (.alt 8 (.alt 9 .leaf .nil) .nil) .nil) .nil) .nil) .nil) .nil) (.alt 2 (.alt 1 (.alt 3 (.alt 4 (.alt 6 (.alt 7 (.alt 8 (.alt 9 .leaf .nil) .nil) .nil) .nil) .nil) .nil) (.alt 3 (.alt 1 (.alt 4 (.alt 6 (.alt 7 (.alt 8 (.alt 9 .leaf .nil) .nil) .nil) .nil) .nil) .nil) .nil)) .nil)) .nil))) [] 9 ?_); simp only [go_sem]) | ((with_reducible refine aCd ?_ ?_ (fun hb => ?_) (fun hb => ?_)); (iterate 2 simp only [go_sem]); all_goals (simp only [go_sem] at hb; try simp only [bls] at hb)) | ((iterate 6 try ((fail_if_success with_reducible refine hK _ ?_ ?_ ?_); clear hK K)); with_reducible refine hK _ ?_ ?_ ?_; rotate_left; (focus (simp only [go_sem]; exact rfl)); clear hK K) | ((first | (with_reducible first | refine xA ?_ | refine xD ?_ | refine xO ?_ | refine xR ?_ | refine xG ?_ | refine xH ?_ | refine xM ?_) | ((with_reducible refine gA ?_); refine xA ?_) | ((with_reducible refine gD ?_); refine xD ?_) | ((with_reducible refine gG ?_); refine xG ?_)); simp only [go_sem]) | (with_reducible refine aGs (fun hg0 => ?_) (fun hg0 => ?_) <;> first | (with_reducible first | exact aF1 hg0 | exact aF2 hg0) | (simp only [hg0, go_sem])) | (with_reducible refine aNk ?_; intro bnil hnil; try simp only []) | exact aZ | fail))
     all_goals first | omega | skip
  ·rw [if_neg hd] at hD
   rw [prevF_stop hb (by omega)] at hrun
   subst hrun
   simp only [Net.d] at hD
   simp only [lpR, resD]
   generalize wordsD (nd.map SN.m) = Z at *
   (simp only [go_sem] at hL ⊢)
   (repeat' (first | (with_reducible first | exact True.intro | refine And.intro ?_ ?_ | refine aBl ?_ | (refine aS 7 [9, 11, 14, 10, 16, 13, 15] ?_; intro K hK)) | ((with_reducible first | refine aGo ?_ | refine rO Ty_ok mixed 14 [0] (.alt 1 (.alt 2 (.alt 3 (.alt 4 (.alt 5 (.alt 6 (.alt 7 (.alt 8 (.alt 9 .leaf .nil) .nil) .nil) .nil) (.alt 6 (.alt 5 (.alt 7 (.alt 8 (.alt 9 .leaf .nil) .nil) .nil) (.alt 7 (.alt 5 (.alt 8 (.alt 9 .leaf .nil) .nil) .nil) .nil)) .nil)) (.alt 5 (.alt 4 (.alt 6 (.alt 7 (.alt 8 (.alt 9 .leaf .nil) .nil) .nil) .nil) .nil) .nil)) (.alt 5 (.alt 3 (.alt 4 (.alt 6 (.alt 7 (.alt 8 (.alt 9 .leaf .nil) .nil) .nil) .nil) .nil) .nil) .nil)) (.alt 5 (.alt 2 (.alt 3 (.alt 4 (.alt 6 (.alt 7 (.alt 8 (.alt 9 .leaf .nil) .nil) .nil) .nil) .nil) .nil) .nil) .nil)) (.alt 2 (.alt 1 (.alt 3 (.alt 4 (.alt 5 (.alt 6 (.alt 7 (.alt 8 (.alt 9 .leaf .nil) .nil) .nil) .nil) (.alt 6 (.alt 5 (.alt 7 (.alt 8 (.alt 9 .leaf .nil) .nil) .nil) (.alt 7 (.alt 5 (.alt 8 (.alt 9 .leaf .nil) .nil) .nil) .nil)) .nil)) (.alt 5 (.alt 4 (.alt 6 (.alt 7 (.alt 8 (.alt 9 .leaf .nil) .nil) .nil) .nil) .nil) .nil)) (.alt 5 (.alt 3 (.alt 4 (.alt 6 (.alt 7 (.alt 8 (.alt 9 .leaf .nil) .nil) .nil) .nil) .nil) .nil) .nil)) (.alt 3 (.alt 1 (.alt 4 (.alt 5 (.alt 6 (.alt 7 (.alt 8 (.alt 9 .leaf .nil) .nil) .nil) .nil) (.alt 6 (.alt 5 (.alt 7 (.alt 8 (.alt 9 .leaf .nil) .nil) .nil) (.alt 7 (.alt 5 (.alt 8 (.alt 9 .leaf .nil) .nil) .nil) .nil)) .nil)) (.alt 5 (.alt 4 (.alt 6 (.alt 7 (.alt 8 (.alt 9 .leaf .nil) .nil) .nil) .nil) .nil) .nil)) (.alt 5 (.alt 1 (.alt 4 (.alt 6 (.alt 7 (.alt 8 (.alt 9 .leaf .nil) .nil) .nil) .nil) .nil) .nil) .nil)) (.alt 5 (.alt 1 (.alt 3 (.alt 4 (.alt 6 (.alt 7 (.alt 8 (.alt 9 .leaf .nil) .nil) .nil) .nil) .nil) .nil) (.alt 3 (.alt 1 (.alt 4 (.alt 6 (.alt 7 (.alt 8 (.alt 9 .leaf .nil) .nil) .nil) .nil) .nil) .nil) .nil)) .nil))) (.alt 5 (.alt 1 (.alt 2 (.alt 3 (.alt 4 (.alt 6 (.alt 7 (.alt 8 (.alt 9 .leaf .nil) .nil) .nil) .nil) .nil) .nil) .nil) (.alt 2 (.alt 1 (.alt 3 (.alt 4 (.alt 6 (.alt 7 (.alt 8 (.alt 9 .leaf .nil) .nil) .nil) .nil) .nil) .nil) (.alt 3 (.alt 1 (.alt 4 (.alt 6 (.alt 7 (.alt 8 (.alt 9 .leaf .nil) .nil) .nil) .nil) .nil) .nil) .nil)) .nil)) .nil))) [] 9 ?_); simp only [go_sem]) | ((with_reducible refine aCd ?_ ?_ (fun hb => ?_) (fun hb => ?_)); (iterate 2 simp only [go_sem]); all_goals (simp only [go_sem] at hb; try simp only [bls] at hb)) | ((iterate 6 try ((fail_if_success with_reducible refine hK _ ?_ ?_ ?_); clear hK K)); with_reducible refine hK _ ?_ ?_ ?_; rotate_left; (focus (simp only [go_sem]; exact rfl)); clear hK K) | ((first | (with_reducible first | refine xA ?_ | refine xD ?_ | refine xO ?_ | refine xR ?_ | refine xG ?_ | refine xH ?_ | refine xM ?_) | ((with_reducible refine gA ?_); refine xA ?_) | ((with_reducible refine gD ?_); refine xD ?_) | ((with_reducible refine gG ?_); refine xG ?_)); simp only [go_sem]) | (with_reducible refine aGs (fun hg0 => ?_) (fun hg0 => ?_) <;> first | (with_reducible first | exact aF1 hg0 | exact aF2 hg0) | (simp only [hg0, go_sem])) | (with_reducible refine aNk ?_; intro bnil hnil; try simp only []) | exact aZ | fail))
   all_goals first | omega | skip
theorem none_c (st : List Stp) (n : Net) (h1 : st.length ≤ 1000) (h2 : n.init.length ≤ 1000) (h3 : n.trs.length ≤ 1000) : ACalls Tryz.prog 23 [.agg (resD st n)] (.one (.bool (decide ((st.length : Int) + n.init.length + n.trs.length = 0)))) [] := by
 (refine ACalls.of_body Ty_ok mixed Tryz.func23 rfl (by kernel_rfl) Tryz.ntmps23 (by simp) (congrArg Array.toList Tryz.results23) ?_)
 simp only [slotsOf, resD]
 (repeat' (first | (with_reducible first | exact True.intro | refine And.intro ?_ ?_ | refine aBl ?_ | (refine aS 3 [] ?_; intro K hK)) | ((with_reducible first | refine aGo ?_); simp only [go_sem]) | ((with_reducible refine aCd ?_ ?_ (fun hb => ?_) (fun hb => ?_)); (iterate 2 simp only [go_sem]); all_goals (simp only [go_sem] at hb; try simp only [bls] at hb)) | ((iterate 6 try ((fail_if_success with_reducible refine hK _ ?_ ?_ ?_); clear hK K)); with_reducible refine hK _ ?_ ?_ ?_; rotate_left; (focus (simp only [go_sem]; exact rfl)); clear hK K) | (with_reducible refine aGs (fun hg0 => ?_) (fun hg0 => ?_) <;> first | (with_reducible first | exact aF1 hg0 | exact aF2 hg0) | (simp only [hg0, go_sem])) | (with_reducible refine aNk ?_; intro bnil hnil; try simp only []) | exact aZ | fail))
 all_goals first | omega | rfl | skip
end Go.Proofs.YtlpllbbjmbbfnaaGreatDoor
