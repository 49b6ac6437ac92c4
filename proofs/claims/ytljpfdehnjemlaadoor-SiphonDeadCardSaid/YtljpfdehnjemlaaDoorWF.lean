/-
 Contracts: siphons and traps: what a set touches, the greatest set of a kind, checks.
-/
import Derived.Test.YtljpfdehnjemlaaDoorWD
import Derived.Test.YtljpfdehnjemlaaDoorWE
import Derived.Test.YtljpfdehnjemlaaDoorN18
set_option linter.unusedSimpArgs false
set_option linter.unusedVariables false
namespace Go.Proofs.YtljpfdehnjemlaaDoor
open Go.Eng Go.RowKit
theorem sides_c (t : Tr) (k : Int) : ACalls Tryd.prog 39 [.agg t.d, .one (.int .i64 k)] (.tup [.one (.list (arcsD (askedL k t))), .one (.list (arcsD (answL k t)))]) [] := by
 (refine ACalls.of_body Ty_ok mixed Tryd.func39 rfl (by kernel_rfl) Tryd.ntmps39 (by simp) (congrArg Array.toList Tryd.results39) ?_)
 simp only [slotsOf, Tr.d]
 (repeat' (first | (with_reducible first | exact True.intro | refine And.intro ?_ ?_ | refine aBl ?_ | (refine aS 6 [] ?_; intro K hK)) | ((with_reducible first | refine aGo ?_ | refine rD (id := 2) ?_ | refine rD (id := 3) ?_); simp only [go_sem]) | ((with_reducible refine aCd ?_ ?_ (fun hb => ?_) (fun hb => ?_)); (iterate 2 simp only [go_sem]); all_goals (simp only [go_sem] at hb; try simp only [bls] at hb)) | ((iterate 6 try ((fail_if_success with_reducible refine hK _ ?_ ?_ ?_); clear hK K)); with_reducible refine hK _ ?_ ?_ ?_; rotate_left; (focus (simp only [go_sem]; exact rfl)); clear hK K) | (with_reducible refine aGs (fun hg0 => ?_) (fun hg0 => ?_) <;> first | (with_reducible first | exact aF1 hg0 | exact aF2 hg0) | (simp only [hg0, go_sem])) | (with_reducible refine aNk ?_; intro bnil hnil; try simp only []) | exact aZ | fail))
 all_goals (simp only [askedL, answL, hb, if_true, if_false])
theorem siTouches1_c (a : Arc) (s : List Int) (hn : s.length ≤ 1000000) (hs : s.Pairwise (· ≤ ·)) : ACalls Tryd.prog 57 [.agg a.d, .one (.ref [.list (ints s)])] (.one (.bool (decide (a.place ∈ s)))) [] := by
 (refine ACalls.of_body Ty_ok mixed Tryd.func57 rfl (by kernel_rfl) Tryd.ntmps57 (by simp) (congrArg Array.toList Tryd.results57) ?_)
 simp only [slotsOf, Arc.d]
 (repeat' (first | (with_reducible first | exact True.intro | refine And.intro ?_ ?_ | refine aBl ?_ | (refine aS 4 [] ?_; intro K hK)) | ((with_reducible first | refine aGo ?_); simp only [go_sem]) | ((with_reducible refine aCd ?_ ?_ (fun hb => ?_) (fun hb => ?_)); (iterate 2 simp only [go_sem]); all_goals (simp only [go_sem] at hb; try simp only [bls] at hb)) | ((iterate 6 try ((fail_if_success with_reducible refine hK _ ?_ ?_ ?_); clear hK K)); with_reducible refine hK _ ?_ ?_ ?_; rotate_left; (focus (simp only [go_sem]; exact rfl)); clear hK K) | ((first | (with_reducible first | refine cA (Contains_c s a.place hn hs) ?_ | refine cD (Contains_c s a.place hn hs) ?_ | refine cO (Contains_c s a.place hn hs) ?_ | refine cR (Contains_c s a.place hn hs) ?_ | refine cG (fun hg => (Contains_c s a.place hn hs)) ?_ | refine cH (fun hg => (Contains_c s a.place hn hs)) ?_ | refine cM (fun hg => (Contains_c s a.place hn hs)) ?_) | ((with_reducible refine gA ?_); refine cA (Contains_c s a.place hn hs) ?_) | ((with_reducible refine gD ?_); refine cD (Contains_c s a.place hn hs) ?_) | ((with_reducible refine gG ?_); refine cG (fun hg => (Contains_c s a.place hn hs)) ?_)); simp only [go_sem]) | (with_reducible refine aGs (fun hg0 => ?_) (fun hg0 => ?_) <;> first | (with_reducible first | exact aF1 hg0 | exact aF2 hg0) | (simp only [hg0, go_sem])) | (with_reducible refine aNk ?_; intro bnil hnil; try simp only []) | exact aZ | fail))
theorem siTouches_c (l : List Arc) (s : List Int) (hl : l.length ≤ 1000000) (hn : s.length ≤ 1000000) (hs : s.Pairwise (· ≤ ·)) : ACalls Tryd.prog 40 [.one (.list (arcsD l)), .one (.list (ints s))] (.one (.bool (touchL l s))) [] := by
 have h1 := ContainsFuncArcs_c l 57 [.ref [.list (ints s)]] (fun a => decide (a.place ∈ s)) hl (capsOk_ref1 _) (fun a _ => siTouches1_c a s hn hs)
 (refine ACalls.of_body Ty_ok mixed Tryd.func40 rfl (by kernel_rfl) Tryd.ntmps40 (by simp) (congrArg Array.toList Tryd.results40) ?_)
 simp only [slotsOf]
 (repeat' (first | (with_reducible first | exact True.intro | refine And.intro ?_ ?_ | refine aBl ?_ | (refine aS 5 [] ?_; intro K hK)) | ((with_reducible first | refine aGo ?_); simp only [go_sem]) | ((with_reducible refine aCd ?_ ?_ (fun hb => ?_) (fun hb => ?_)); (iterate 2 simp only [go_sem]); all_goals (simp only [go_sem] at hb; try simp only [bls] at hb)) | ((iterate 6 try ((fail_if_success with_reducible refine hK _ ?_ ?_ ?_); clear hK K)); with_reducible refine hK _ ?_ ?_ ?_; rotate_left; (focus (simp only [go_sem]; exact rfl)); clear hK K) | ((first | (with_reducible first | refine xA ?_ | refine xD ?_ | refine xO ?_ | refine xR ?_ | refine xG ?_ | refine xH ?_ | refine xM ?_) | ((with_reducible refine gA ?_); refine xA ?_) | ((with_reducible refine gD ?_); refine xD ?_) | ((with_reducible refine gG ?_); refine xG ?_)); simp only [go_sem]) | (with_reducible refine aGs (fun hg0 => ?_) (fun hg0 => ?_) <;> first | (with_reducible first | exact aF1 hg0 | exact aF2 hg0) | (simp only [hg0, go_sem])) | (with_reducible refine aNk ?_; intro bnil hnil; try simp only []) | exact aZ | fail))
 rfl
theorem reduce1_c (p : Int) (l : List Arc) (hl : l.length ≤ 1000000) : ACalls Tryd.prog 42 [.one (.int .i64 p), .one (.ref [.list (arcsD l)])] (.one (.bool (touchL l [p]))) [] := by
 have h1 := siTouches_c l [p] hl (by simp) (by simp)
 (refine ACalls.of_body Ty_ok mixed Tryd.func42 rfl (by kernel_rfl) Tryd.ntmps42 (by simp) (congrArg Array.toList Tryd.results42) ?_)
 simp only [slotsOf]
 (repeat' (first | (with_reducible first | exact True.intro | refine And.intro ?_ ?_ | refine aBl ?_ | (refine aS 4 [] ?_; intro K hK)) | ((with_reducible first | refine aGo ?_); simp only [go_sem]) | ((with_reducible refine aCd ?_ ?_ (fun hb => ?_) (fun hb => ?_)); (iterate 2 simp only [go_sem]); all_goals (simp only [go_sem] at hb; try simp only [bls] at hb)) | ((iterate 6 try ((fail_if_success with_reducible refine hK _ ?_ ?_ ?_); clear hK K)); with_reducible refine hK _ ?_ ?_ ?_; rotate_left; (focus (simp only [go_sem]; exact rfl)); clear hK K) | ((first | (with_reducible first | refine xA ?_ | refine xD ?_ | refine xO ?_ | refine xR ?_ | refine xG ?_ | refine xH ?_ | refine xM ?_) | ((with_reducible refine gA ?_); refine xA ?_) | ((with_reducible refine gD ?_); refine xD ?_) | ((with_reducible refine gG ?_); refine xG ?_)); simp only [go_sem]) | (with_reducible refine aGs (fun hg0 => ?_) (fun hg0 => ?_) <;> first | (with_reducible first | exact aF1 hg0 | exact aF2 hg0) | (simp only [hg0, go_sem])) | (with_reducible refine aNk ?_; intro bnil hnil; try simp only []) | exact aZ | fail))
theorem redT_eq (k : Int) (t : Tr) (s : List Int) (h : touchL (answL k t) s = false) : s.filter (fun p => !touchL (askedL k t) [p]) = redT k t s := by
 unfold redT
 rw [if_neg (by rw [h]; simp)]
theorem redT_same (k : Int) (t : Tr) (s : List Int) (h : touchL (answL k t) s = true) : redT k t s = s := by
 unfold redT
 rw [if_pos h]
theorem redR_take (k : Int) (ts : List Tr) (s : List Int) (j : Nat) (hj : j < ts.length) : redR k (ts.take (j + 1)) s = redT k (ts.getD j Tr.no) (redR k (ts.take j) s) := by
 rw [take_succ_getD ts j Tr.no hj]
 simp [redR, List.foldl_append]
set_option maxHeartbeats 16000000 in
theorem reduce_c (n : Net) (s : List Int) (k : Int) (hf : n.Fits) (hn : s.length ≤ 1000000) (hs : s.Pairwise (· ≤ ·)) : ACalls Tryd.prog 17 [.agg n.d, .one (.list (ints s)), .one (.int .i64 k)] (.one (.list (ints (redL k n.trs s)))) [] := by
 have h1 := hf.trs
 (refine ACalls.of_body Ty_ok mixed Tryd.func17 rfl (by kernel_rfl) Tryd.ntmps17 (by simp) (congrArg Array.toList Tryd.results17) ?_)
 simp only [slotsOf, Net.d]
 (repeat' (first | (with_reducible first | exact True.intro | refine And.intro ?_ ?_ | refine aBl ?_ | (refine aS 13 [18, 17, 19] ?_; intro K hK)) | ((with_reducible first | refine aGo ?_); simp only [go_sem]) | ((with_reducible refine aCd ?_ ?_ (fun hb => ?_) (fun hb => ?_)); (iterate 2 simp only [go_sem]); all_goals (simp only [go_sem] at hb; try simp only [bls] at hb)) | ((iterate 6 try ((fail_if_success with_reducible refine hK _ ?_ ?_ ?_); clear hK K)); with_reducible refine hK _ ?_ ?_ ?_; rotate_left; (focus (simp only [go_sem]; exact rfl)); clear hK K) | ((first | (with_reducible first | refine cA (CloneInts_c s hn) ?_ | refine cD (CloneInts_c s hn) ?_ | refine cO (CloneInts_c s hn) ?_ | refine cR (CloneInts_c s hn) ?_ | refine cG (fun hg => (CloneInts_c s hn)) ?_ | refine cH (fun hg => (CloneInts_c s hn)) ?_ | refine cM (fun hg => (CloneInts_c s hn)) ?_) | ((with_reducible refine gA ?_); refine cA (CloneInts_c s hn) ?_) | ((with_reducible refine gD ?_); refine cD (CloneInts_c s hn) ?_) | ((with_reducible refine gG ?_); refine cG (fun hg => (CloneInts_c s hn)) ?_)); simp only [go_sem]) | (with_reducible refine aGs (fun hg0 => ?_) (fun hg0 => ?_) <;> first | (with_reducible first | exact aF1 hg0 | exact aF2 hg0) | (simp only [hg0, go_sem])) | (with_reducible refine aNk ?_; intro bnil hnil; try simp only []) | exact aZ | fail))
 refine awp_loop _ (by simp only [go_sem]; rfl) (List Int × Bool) (fun u => u.1.Sublist s ∧ redL k n.trs s = if u.2 = true then redL k n.trs u.1 else u.1) (fun u => [(1, .one (.list (ints u.1))), (7, .one (.bool u.2))]) (fun _ _ => [.var 30 [.list (ints n.init), .list (trsD n.trs)], .row 3 1 []]) (fun u => 2 * u.1.length + if u.2 = true then 1 else 0) (s, true) ⟨List.Sublist.refl _, by simp⟩ ?_ ?_
 ·(simp only [SubF, go_sem]; (try simp only [go_sem]); repeat' (first | exact True.intro | with_reducible refine And.intro ?_ ?_ | rfl | omega))
 ·rintro ⟨u, b⟩ ⟨hsub, hres⟩ L hL
  simp only at hsub hres
  cases b with
  | false =>
   (simp only [go_sem] at hL ⊢)
   (repeat' (first | (with_reducible first | exact True.intro | refine And.intro ?_ ?_ | refine aBl ?_ | (refine aS 13 [18, 17, 19] ?_; intro K hK)) | ((with_reducible first | refine aGo ?_); simp only [go_sem]) | ((with_reducible refine aCd ?_ ?_ (fun hb => ?_) (fun hb => ?_)); (iterate 2 simp only [go_sem]); all_goals (simp only [go_sem] at hb; try simp only [bls] at hb)) | ((iterate 6 try ((fail_if_success with_reducible refine hK _ ?_ ?_ ?_); clear hK K)); with_reducible refine hK _ ?_ ?_ ?_; rotate_left; (focus (simp only [go_sem]; exact rfl)); clear hK K) | (with_reducible refine aGs (fun hg0 => ?_) (fun hg0 => ?_) <;> first | (with_reducible first | exact aF1 hg0 | exact aF2 hg0) | (simp only [hg0, go_sem])) | (with_reducible refine aNk ?_; intro bnil hnil; try simp only []) | exact aZ | fail))
   rw [hres]; rfl
  | true =>
   rw [if_pos rfl] at hres
   (simp only [go_sem] at hL ⊢)
   (repeat' (first | (with_reducible first | exact True.intro | refine And.intro ?_ ?_ | refine aBl ?_ | (refine aS 13 [18, 17, 19] ?_; intro K hK)) | ((with_reducible first | refine aGo ?_); simp only [go_sem]) | ((with_reducible refine aCd ?_ ?_ (fun hb => ?_) (fun hb => ?_)); (iterate 2 simp only [go_sem]); all_goals (simp only [go_sem] at hb; try simp only [bls] at hb)) | ((iterate 6 try ((fail_if_success with_reducible refine hK _ ?_ ?_ ?_); clear hK K)); with_reducible refine hK _ ?_ ?_ ?_; rotate_left; (focus (simp only [go_sem]; exact rfl)); clear hK K) | (with_reducible refine aGs (fun hg0 => ?_) (fun hg0 => ?_) <;> first | (with_reducible first | exact aF1 hg0 | exact aF2 hg0) | (simp only [hg0, go_sem])) | (with_reducible refine aNk ?_; intro bnil hnil; try simp only []) | exact aZ | fail))
   have hO := hL
   clear hL
   refine awp_loop _ (by simp only [go_sem]; rfl) Nat (fun j => j ≤ n.trs.length) (fun j => [(1, .one (.list (ints (redR k (n.trs.take j) u)))), (7, .one (.bool (decide ((redR k (n.trs.take j) u).length < u.length)))), (19, .one (.int .i64 j))]) (fun _ _ => [.var 30 [.list (ints n.init), .list (trsD n.trs)], .row 3 1 []]) (fun j => n.trs.length - j) 0 (by omega) ?_ ?_
   ·have e : decide ((redR k (n.trs.take 0) u).length < u.length) = false := by simp [redR]
    rw [e]
    (simp only [SubF, go_sem]; (try simp only [go_sem]); repeat' (first | exact True.intro | with_reducible refine And.intro ?_ ?_ | rfl | omega))
   ·rintro j hj L hL
    have hq : ((j : Nat) : Int).toNat = j := by omega
    have hsj := redR_sub k (n.trs.take j) u
    have hpw := hs.sublist (hsj.trans hsub)
    have hlj := (hsj.trans hsub).length_le
    have hlj2 := hsj.length_le
    by_cases hlt : j < n.trs.length
    ·have hg := trs_get hlt [.int .i64 0, .nil, .nil]
     have hi1 := hf.inn _ (getD_mem n.trs j Tr.no hlt)
     have hi2 := hf.out _ (getD_mem n.trs j Tr.no hlt)
     have hstep := redR_take k n.trs u j hlt
     generalize n.trs.getD j Tr.no = t at hg hi1 hi2 hstep
     generalize redR k (n.trs.take j) u = X at *
     have ha1 : (askedL k t).length ≤ 1000000 := by unfold askedL; split <;> assumption
     have ha2 : (answL k t).length ≤ 1000000 := by unfold answL; split <;> assumption
     have hsd := sides_c t k
     have hto := siTouches_c (answL k t) X ha2 (by omega) hpw
     have hdel := DeleteFunc_c X 42 [.ref [.list (arcsD (askedL k t))]] (fun p => touchL (askedL k t) [p]) (by omega) (capsOk_ref1 _) (fun p => reduce1_c p _ ha1)
     (simp only [go_sem] at hL ⊢)
     (repeat' (first | (with_reducible first | exact True.intro | refine And.intro ?_ ?_ | refine aBl ?_ | (refine aS 13 [18, 17, 19] ?_; intro K hK)) | ((with_reducible first | refine aGo ?_); simp only [hg, hq, go_sem]) | ((with_reducible refine aCd ?_ ?_ (fun hb => ?_) (fun hb => ?_)); (iterate 2 simp only [hg, hq, go_sem]); all_goals (simp only [hg, hq, go_sem] at hb; try simp only [bls] at hb)) | ((iterate 6 try ((fail_if_success with_reducible refine hK _ ?_ ?_ ?_); clear hK K)); with_reducible refine hK _ ?_ ?_ ?_; rotate_left; (focus (simp only [hg, hq, go_sem]; exact rfl)); clear hK K) | ((first | (with_reducible first | refine xA ?_ | refine xD ?_ | refine xO ?_ | refine xR ?_ | refine xG ?_ | refine xH ?_ | refine xM ?_ | refine cA (CloneInts_c X (by omega)) ?_ | refine cD (CloneInts_c X (by omega)) ?_ | refine cO (CloneInts_c X (by omega)) ?_ | refine cR (CloneInts_c X (by omega)) ?_ | refine cG (fun hg => (CloneInts_c X (by omega))) ?_ | refine cH (fun hg => (CloneInts_c X (by omega))) ?_ | refine cM (fun hg => (CloneInts_c X (by omega))) ?_) | ((with_reducible refine gA ?_); refine xA ?_) | ((with_reducible refine gD ?_); refine xD ?_) | ((with_reducible refine gG ?_); refine xG ?_) | ((with_reducible refine gA ?_); refine cA (CloneInts_c X (by omega)) ?_) | ((with_reducible refine gD ?_); refine cD (CloneInts_c X (by omega)) ?_) | ((with_reducible refine gG ?_); refine cG (fun hg => (CloneInts_c X (by omega))) ?_)); simp only [hg, hq, go_sem]) | (with_reducible refine aGs (fun hg0 => ?_) (fun hg0 => ?_) <;> first | (with_reducible first | exact aF1 hg0 | exact aF2 hg0) | (simp only [hg0, hg, hq, go_sem])) | (with_reducible refine aNk ?_; intro bnil hnil; try simp only []) | exact aZ | fail))
     all_goals first | omega | skip
     ·refine hL _ (j + 1) (by omega) ?_ (by omega)
      rw [hstep, redT_same k t X hb]
      (simp only [SubF, go_sem]; (try simp only [go_sem]); repeat' (first | exact True.intro | with_reducible refine And.intro ?_ ?_ | rfl | omega))
     ·have hr := redT_eq k t X hb
      have hrl := (redT_sub k t X).length_le
      have hd : (decide (X.length < u.length) || decide (((redT k t X).length : Int) < (X.length : Int))) = decide ((redT k t X).length < u.length) := by
       rw [Bool.eq_iff_iff]
       simp only [Bool.or_eq_true, decide_eq_true_eq]
       omega
      (refine MCallAt_i [3] [4] (hdel) ?_ ?_; (focus (simp only [mside, handOk, go_sem]; (first | done | exact (by decide) | exact ⟨by decide, fun t ht => ht.elim⟩ | (refine ⟨by decide, ?_⟩; simp; done)))); simp only [go_sem])
      (repeat' (first | (with_reducible first | exact True.intro | refine And.intro ?_ ?_ | refine aBl ?_ | (refine aS 13 [18, 17, 19] ?_; intro K hK)) | ((with_reducible first | refine aGo ?_); simp only [go_sem]) | ((with_reducible refine aCd ?_ ?_ (fun hb => ?_) (fun hb => ?_)); (iterate 2 simp only [go_sem]); all_goals (simp only [go_sem] at hb; try simp only [bls] at hb)) | ((iterate 6 try ((fail_if_success with_reducible refine hK _ ?_ ?_ ?_); clear hK K)); with_reducible refine hK _ ?_ ?_ ?_; rotate_left; (focus (simp only [go_sem]; exact rfl)); clear hK K) | (with_reducible refine aGs (fun hg0 => ?_) (fun hg0 => ?_) <;> first | (with_reducible first | exact aF1 hg0 | exact aF2 hg0) | (simp only [hg0, go_sem])) | (with_reducible refine aNk ?_; intro bnil hnil; try simp only []) | exact aZ | fail))
      rw [hr, hd]
      refine hL _ (j + 1) (by omega) ?_ (by omega)
      rw [hstep]
      (simp only [SubF, go_sem]; (try simp only [go_sem]); repeat' (first | exact True.intro | with_reducible refine And.intro ?_ ?_ | rfl | omega))
    ·(simp only [go_sem] at hL ⊢)
     (repeat' (first | (with_reducible first | exact True.intro | refine And.intro ?_ ?_ | refine aBl ?_ | (refine aS 13 [18, 17, 19] ?_; intro K hK)) | ((with_reducible first | refine aGo ?_); simp only [go_sem]) | ((with_reducible refine aCd ?_ ?_ (fun hb => ?_) (fun hb => ?_)); (iterate 2 simp only [go_sem]); all_goals (simp only [go_sem] at hb; try simp only [bls] at hb)) | ((iterate 6 try ((fail_if_success with_reducible refine hK _ ?_ ?_ ?_); clear hK K)); with_reducible refine hK _ ?_ ?_ ?_; rotate_left; (focus (simp only [go_sem]; exact rfl)); clear hK K) | (with_reducible refine aGs (fun hg0 => ?_) (fun hg0 => ?_) <;> first | (with_reducible first | exact aF1 hg0 | exact aF2 hg0) | (simp only [hg0, go_sem])) | (with_reducible refine aNk ?_; intro bnil hnil; try simp only []) | exact aZ | fail))
     all_goals first | omega | skip
     have hall : n.trs.take j = n.trs := List.take_of_length_le (by omega)
     rw [hall] at hlj2 ⊢
     have hst := redL_step k n.trs u
     refine hO _ (redR k n.trs u, decide ((redR k n.trs u).length < u.length)) ⟨hall ▸ hsj.trans hsub, ?_⟩ (by (simp only [SubF, go_sem]; (try simp only [go_sem]); repeat' (first | exact True.intro | with_reducible refine And.intro ?_ ?_ | rfl | omega))) ?_
     ·simp only [decide_eq_true_eq]
      rw [hres, hst]
      split
      ·rfl
      ·rw [(redR_sub k n.trs u).eq_of_length (by omega)]
     ·simp only [decide_eq_true_eq, if_true]
      split <;> omega
theorem csFrom_pw (m : Int) : ∀ (xs : List Int) (p : Option Int), csFrom m xs p = 0 → xs.Pairwise (· < ·) ∧ ∀ q, p = some q → ∀ x ∈ xs, q < x
 | [], _, _ => ⟨List.Pairwise.nil, fun _ _ x hx => by simp at hx⟩
 | y :: xs, p, h => by
  simp only [csFrom] at h
  split at h
  ·cases h
  ·split at h
   ·cases h
   ·rename_i h1
    obtain ⟨a, b⟩ := csFrom_pw m xs _ h
    refine ⟨List.pairwise_cons.2 ⟨fun x hx => b y rfl x hx, a⟩, ?_⟩
    rintro q rfl x hx
    simp at h1
    rcases List.mem_cons.1 hx with rfl | hx
    ·exact h1
    ·have := b y rfl x hx
     omega
theorem checkSet_pw {m : Int} {xs : List Int} (h : checkSet xs m = 0) : xs.Pairwise (· < ·) := (csFrom_pw m xs _ h).1
theorem checkSet_in {m : Int} {xs : List Int} (h : checkSet xs m = 0) : ∀ x ∈ xs, 0 ≤ x ∧ x < m := csFrom_in m xs _ h
theorem checkSet_ok {m : Int} : ∀ {xs : List Int}, xs.Pairwise (· < ·) → (∀ x ∈ xs, 0 ≤ x ∧ x < m) → checkSet xs m = 0 := by
 have key : ∀ (xs : List Int) (p : Option Int), xs.Pairwise (· < ·) → (∀ x ∈ xs, 0 ≤ x ∧ x < m) → (∀ q, p = some q → ∀ x ∈ xs, q < x) → csFrom m xs p = 0 := by
  intro xs
  induction xs with
  | nil => intro p _ _ _; rfl
  | cons y xs ih =>
   intro p h1 h2 h3
   have hy := h2 y (by simp)
   rw [csFrom, if_neg (by omega), if_neg]
   ·exact ih _ (List.pairwise_cons.1 h1).2 (fun x hx => h2 x (by simp [hx])) (fun q hq x hx => by cases hq; exact (List.pairwise_cons.1 h1).1 x hx)
   ·cases p with
    | none => simp
    | some q => have := h3 q rfl y (by simp); simp; omega
 intro xs h1 h2
 exact key xs none h1 h2 (fun q hq => by cases hq)
/-! checks -/
def siE (n : Net) (s : List Int) (k : Int) : Int := if netE n ≠ 0 then netE n else if checkSet s n.init.length ≠ 0 then checkSet s n.init.length else if k ≠ 1 ∧ k ≠ 2 then 11 else 0
theorem siE_ok {n : Net} {s : List Int} {k : Int} (h : siE n s k = 0) : netE n = 0 ∧ checkSet s n.init.length = 0 ∧ (k = 1 ∨ k = 2) := by
 unfold siE at h
 split at h
 ·omega
 ·split at h
  ·omega
  ·split at h
   ·cases h
   ·omega
theorem siCheck_c (n : Net) (s : List Int) (k : Int) (hf : n.Fits) (hn : s.length ≤ 1000000) : ACalls Tryd.prog 19 [.agg n.d, .one (.list (ints s)), .one (.int .i64 k)] (.one (.int .i64 (siE n s k))) [] := by
 have h1 := netCheck_c n hf
 have h2 := CheckSet_c s n.init.length (by omega)
 have hi := hf.init
 (refine ACalls.of_body Ty_ok mixed Tryd.func19 rfl (by kernel_rfl) Tryd.ntmps19 (by simp) (congrArg Array.toList Tryd.results19) ?_)
 simp only [slotsOf, Net.d]
 simp only [Net.d] at h1
 (repeat' (first | (with_reducible first | exact True.intro | refine And.intro ?_ ?_ | refine aBl ?_ | (refine aS 9 [] ?_; intro K hK)) | ((with_reducible first | refine aGo ?_); simp only [go_sem]) | ((with_reducible refine aCd ?_ ?_ (fun hb => ?_) (fun hb => ?_)); (iterate 2 simp only [go_sem]); all_goals (simp only [go_sem] at hb; try simp only [bls] at hb)) | ((iterate 6 try ((fail_if_success with_reducible refine hK _ ?_ ?_ ?_); clear hK K)); with_reducible refine hK _ ?_ ?_ ?_; rotate_left; (focus (simp only [go_sem]; exact rfl)); clear hK K) | ((first | (with_reducible first | refine xA ?_ | refine xD ?_ | refine xO ?_ | refine xR ?_ | refine xG ?_ | refine xH ?_ | refine xM ?_) | ((with_reducible refine gA ?_); refine xA ?_) | ((with_reducible refine gD ?_); refine xD ?_) | ((with_reducible refine gG ?_); refine xG ?_)); simp only [go_sem]) | (with_reducible refine aGs (fun hg0 => ?_) (fun hg0 => ?_) <;> first | (with_reducible first | exact aF1 hg0 | exact aF2 hg0) | (simp only [hg0, go_sem])) | (with_reducible refine aNk ?_; intro bnil hnil; try simp only []) | exact aZ | fail))
 ·rw [siE, if_pos hb]
 ·rename_i hb1
  rw [siE, if_neg (by omega), if_pos hb]
 ·rename_i hb1 hb2
  rw [siE, if_neg (by omega), if_neg (by omega), if_pos (by omega)]
 ·rename_i hb1 hb2
  rw [siE, if_neg (by omega), if_neg (by omega), if_neg (by omega)]
theorem Is_c (n : Net) (s : List Int) (k : Int) (hf : n.Fits) (hn : s.length ≤ 1000000) : ACalls Tryd.prog 12 [.agg n.d, .one (.list (ints s)), .one (.int .i64 k)] (.tup [.one (.bool (decide (siE n s k = 0) && isL k n.trs s)), .one (.int .i64 (siE n s k))]) [] := by
 have h1 := siCheck_c n s k hf hn
 by_cases he : siE n s k = 0
 ·have h2 := reduce_c n s k hf hn ((checkSet_pw (siE_ok he).2.1).imp fun h => Int.le_of_lt h)
  have h3 := redL_id_iff k n.trs s
  have h4 := (redL_sub k n.trs s).length_le
  (refine ACalls.of_body Ty_ok mixed Tryd.func12 rfl (by kernel_rfl) Tryd.ntmps12 (by simp) (congrArg Array.toList Tryd.results12) ?_)
  simp only [slotsOf, Net.d]
  simp only [Net.d] at h1 h2
  (repeat' (first | (with_reducible first | exact True.intro | refine And.intro ?_ ?_ | refine aBl ?_ | (refine aS 9 [] ?_; intro K hK)) | ((with_reducible first | refine aGo ?_); simp only [he, go_sem]) | ((with_reducible refine aCd ?_ ?_ (fun hb => ?_) (fun hb => ?_)); (iterate 2 simp only [he, go_sem]); all_goals (simp only [he, go_sem] at hb; try simp only [bls] at hb)) | ((iterate 6 try ((fail_if_success with_reducible refine hK _ ?_ ?_ ?_); clear hK K)); with_reducible refine hK _ ?_ ?_ ?_; rotate_left; (focus (simp only [he, go_sem]; exact rfl)); clear hK K) | ((first | (with_reducible first | refine xA ?_ | refine xD ?_ | refine xO ?_ | refine xR ?_ | refine xG ?_ | refine xH ?_ | refine xM ?_) | ((with_reducible refine gA ?_); refine xA ?_) | ((with_reducible refine gD ?_); refine xD ?_) | ((with_reducible refine gG ?_); refine xG ?_)); simp only [he, go_sem]) | (with_reducible refine aGs (fun hg0 => ?_) (fun hg0 => ?_) <;> first | (with_reducible first | exact aF1 hg0 | exact aF2 hg0) | (simp only [hg0, he, go_sem])) | (with_reducible refine aNk ?_; intro bnil hnil; try simp only []) | exact aZ | fail))
  all_goals first | omega | (rw [Bool.eq_iff_iff, ← h3]; simp; omega) | skip
 ·(refine ACalls.of_body Ty_ok mixed Tryd.func12 rfl (by kernel_rfl) Tryd.ntmps12 (by simp) (congrArg Array.toList Tryd.results12) ?_)
  simp only [slotsOf, Net.d]
  simp only [Net.d] at h1
  (repeat' (first | (with_reducible first | exact True.intro | refine And.intro ?_ ?_ | refine aBl ?_ | (refine aS 9 [] ?_; intro K hK)) | ((with_reducible first | refine aGo ?_); simp only [go_sem]) | ((with_reducible refine aCd ?_ ?_ (fun hb => ?_) (fun hb => ?_)); (iterate 2 simp only [go_sem]); all_goals (simp only [go_sem] at hb; try simp only [bls] at hb)) | ((iterate 6 try ((fail_if_success with_reducible refine hK _ ?_ ?_ ?_); clear hK K)); with_reducible refine hK _ ?_ ?_ ?_; rotate_left; (focus (simp only [go_sem]; exact rfl)); clear hK K) | ((first | (with_reducible first | refine xA ?_ | refine xD ?_ | refine xO ?_ | refine xR ?_ | refine xG ?_ | refine xH ?_ | refine xM ?_) | ((with_reducible refine gA ?_); refine xA ?_) | ((with_reducible refine gD ?_); refine xD ?_) | ((with_reducible refine gG ?_); refine xG ?_)); simp only [go_sem]) | (with_reducible refine aGs (fun hg0 => ?_) (fun hg0 => ?_) <;> first | (with_reducible first | exact aF1 hg0 | exact aF2 hg0) | (simp only [hg0, go_sem])) | (with_reducible refine aNk ?_; intro bnil hnil; try simp only []) | exact aZ | fail))
  rw [decide_eq_false hb]; rfl
/-! tokens -/
def sumAt (m s : List Int) : Int := s.foldl (fun a p => a + m.getD p.toNat 0) 0
theorem sumAt_take (m s : List Int) (k : Nat) (hk : k < s.length) : sumAt m (s.take (k + 1)) = sumAt m (s.take k) + m.getD (s.getD k 0).toNat 0 := by
 rw [take_succ_getD s k 0 hk, sumAt, List.foldl_append]
 rfl
theorem sumAt_bound (m : List Int) (hm : ∀ x ∈ m, 0 ≤ x ∧ x ≤ 65536) : ∀ (s : List Int) (k : Nat), k ≤ s.length → 0 ≤ sumAt m (s.take k) ∧ sumAt m (s.take k) ≤ 65536 * k
 | s, 0, _ => by simp [sumAt]
 | s, k + 1, h => by
  have := sumAt_bound m hm s k (by omega)
  rw [sumAt_take m s k (by omega)]
  have h2 : 0 ≤ m.getD (s.getD k 0).toNat 0 ∧ m.getD (s.getD k 0).toNat 0 ≤ 65536 := by
   generalize (s.getD k 0).toNat = j
   by_cases hk : j < m.length
   ·exact hm _ (getD_mem m _ 0 hk)
   ·simp [List.getD, List.getElem?_eq_none (Nat.le_of_not_lt hk)]
  omega
theorem siTokens_c (m s : List Int) (hm : ∀ x ∈ m, 0 ≤ x ∧ x ≤ 65536) (hs : ∀ x ∈ s, 0 ≤ x ∧ x < m.length) (hn : s.length ≤ 1000000) (hml : m.length ≤ 1000000) : ACalls Tryd.prog 18 [.one (.list (ints m)), .one (.list (ints s))] (.one (.int .i64 (sumAt m s))) [] := by
 (refine ACalls.of_body Ty_ok mixed Tryd.func18 rfl (by kernel_rfl) Tryd.ntmps18 (by simp) (congrArg Array.toList Tryd.results18) ?_)
 simp only [slotsOf]
 (repeat' (first | (with_reducible first | exact True.intro | refine And.intro ?_ ?_ | refine aBl ?_ | (refine aS 11 [] ?_; intro K hK)) | ((with_reducible first | refine aGo ?_); simp only [go_sem]) | ((with_reducible refine aCd ?_ ?_ (fun hb => ?_) (fun hb => ?_)); (iterate 2 simp only [go_sem]); all_goals (simp only [go_sem] at hb; try simp only [bls] at hb)) | ((iterate 6 try ((fail_if_success with_reducible refine hK _ ?_ ?_ ?_); clear hK K)); with_reducible refine hK _ ?_ ?_ ?_; rotate_left; (focus (simp only [go_sem]; exact rfl)); clear hK K) | (with_reducible refine aGs (fun hg0 => ?_) (fun hg0 => ?_) <;> first | (with_reducible first | exact aF1 hg0 | exact aF2 hg0) | (simp only [hg0, go_sem])) | (with_reducible refine aNk ?_; intro bnil hnil; try simp only []) | exact aZ | fail))
 refine awp_loop _ (by simp only [go_sem]; rfl) Nat (fun k => k ≤ s.length) (fun k => [(5, .one (.int .i64 (sumAt m (s.take k)))), (10, .one (.int .i64 k))]) (fun _ H => H) (fun k => s.length - k) 0 (by omega) ?_ ?_
 ·(simp only [SubF, go_sem]; (try simp only [go_sem]); repeat' (first | exact True.intro | with_reducible refine And.intro ?_ ?_ | rfl | omega))
 ·rintro k hk L hL
  have hb0 := sumAt_bound m hm s k hk
  by_cases hlt : k < s.length
  ·have hx := hs _ (getD_mem s k 0 hlt)
   have hx2 := hm _ (getD_mem m (s.getD k 0).toNat 0 (by omega))
   have hst := sumAt_take m s k hlt
   (simp only [go_sem] at hL ⊢)
   (repeat' (first | (with_reducible first | exact True.intro | refine And.intro ?_ ?_ | refine aBl ?_ | (refine aS 11 [] ?_; intro K hK)) | ((with_reducible first | refine aGo ?_); simp only [go_sem]) | ((with_reducible refine aCd ?_ ?_ (fun hb => ?_) (fun hb => ?_)); (iterate 2 simp only [go_sem]); all_goals (simp only [go_sem] at hb; try simp only [bls] at hb)) | ((iterate 6 try ((fail_if_success with_reducible refine hK _ ?_ ?_ ?_); clear hK K)); with_reducible refine hK _ ?_ ?_ ?_; rotate_left; (focus (simp only [go_sem]; exact rfl)); clear hK K) | (with_reducible refine aGs (fun hg0 => ?_) (fun hg0 => ?_) <;> first | (with_reducible first | exact aF1 hg0 | exact aF2 hg0) | (simp only [hg0, go_sem])) | (with_reducible refine aNk ?_; intro bnil hnil; try simp only []) | exact aZ | fail))
   all_goals first | omega | skip
   refine hL _ (k + 1) (by omega) ?_ (by omega)
   rw [hst]
   (simp only [SubF, go_sem]; (try simp only [go_sem]); repeat' (first | exact True.intro | with_reducible refine And.intro ?_ ?_ | rfl | omega))
  ·(simp only [go_sem] at hL ⊢)
   (repeat' (first | (with_reducible first | exact True.intro | refine And.intro ?_ ?_ | refine aBl ?_ | (refine aS 11 [] ?_; intro K hK)) | ((with_reducible first | refine aGo ?_); simp only [go_sem]) | ((with_reducible refine aCd ?_ ?_ (fun hb => ?_) (fun hb => ?_)); (iterate 2 simp only [go_sem]); all_goals (simp only [go_sem] at hb; try simp only [bls] at hb)) | ((iterate 6 try ((fail_if_success with_reducible refine hK _ ?_ ?_ ?_); clear hK K)); with_reducible refine hK _ ?_ ?_ ?_; rotate_left; (focus (simp only [go_sem]; exact rfl)); clear hK K) | (with_reducible refine aGs (fun hg0 => ?_) (fun hg0 => ?_) <;> first | (with_reducible first | exact aF1 hg0 | exact aF2 hg0) | (simp only [hg0, go_sem])) | (with_reducible refine aNk ?_; intro bnil hnil; try simp only []) | exact aZ | fail))
   all_goals first | omega | skip
   rw [List.take_of_length_le (by omega)]
end Go.Proofs.YtljpfdehnjemlaaDoor
