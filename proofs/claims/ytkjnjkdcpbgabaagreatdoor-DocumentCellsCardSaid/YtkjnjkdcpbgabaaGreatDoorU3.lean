/-
 Chapter 23: items compared and cloned; few of them.
-/
import Derived.Test.YtkjnjkdcpbgabaaGreatDoorU2
set_option linter.unusedSimpArgs false
set_option linter.unusedVariables false
namespace Go.Proofs.YtkjnjkdcpbgabaaGreatDoor
open Go.Eng Go.RowKit
theorem auEqual_c (a b : AU) (ha : a.Fits) : ACalls Tryz.prog 81 [.agg a.d, .agg b.d] (.one (.bool (decide (a = b)))) [] := by
 obtain ⟨h1, h2, h3⟩ := ha
 have e : decide (a = b) = (decide (a.states = b.states) && decide (a.alpha = b.alpha) && decide (a.marked = b.marked) && decide (a.edges = b.edges)) := by
  rw [au_eq, Bool.and_comm (decide (a.alpha = b.alpha))]
 rw [e]
 have c1 := EqualInts_c a.alpha b.alpha (by omega)
 have c2 := EqualInts_c a.marked b.marked (by omega)
 have c3 := EqualEds_c a.edges b.edges (by omega)
 (refine ACalls.of_body Ty_ok mixed Tryz.func81 rfl (by kernel_rfl) Tryz.ntmps81 (by simp) (congrArg Array.toList Tryz.results81) ?_)
 simp only [slotsOf, AU.d]
 (repeat' (first | (with_reducible first | exact True.intro | refine And.intro ?_ ?_ | refine aBl ?_ | (refine aS 5 [] ?_; intro K hK)) | ((with_reducible first | refine aGo ?_); simp only [go_sem]) | ((with_reducible refine aCd ?_ ?_ (fun hb => ?_) (fun hb => ?_)); (iterate 2 simp only [go_sem]); all_goals (simp only [go_sem] at hb; try simp only [bls] at hb)) | ((iterate 6 try ((fail_if_success with_reducible refine hK _ ?_ ?_ ?_); clear hK K)); with_reducible refine hK _ ?_ ?_ ?_; rotate_left; (focus (simp only [go_sem]; exact rfl)); clear hK K) | ((first | (with_reducible first | refine xA ?_ | refine xD ?_ | refine xO ?_ | refine xR ?_ | refine xG ?_ | refine xH ?_ | refine xM ?_) | ((with_reducible refine gA ?_); refine xA ?_) | ((with_reducible refine gD ?_); refine xD ?_) | ((with_reducible refine gG ?_); refine xG ?_)); simp only [go_sem]) | (with_reducible refine aGs (fun hg0 => ?_) (fun hg0 => ?_) <;> first | (with_reducible first | exact aF1 hg0 | exact aF2 hg0) | (simp only [hg0, go_sem])) | (with_reducible refine aNk ?_; intro bnil hnil; try simp only []) | exact aZ | fail))
 all_goals first | omega | rfl | (simp; done) | skip
set_option maxHeartbeats 8000000 in
theorem itEqual_c (a b : It) (ha : a.Fits) : ACalls Tryz.prog 42 [.agg a.d, .agg b.d] (.one (.bool (decide (a = b)))) [] := by
 have h4 := ha.locs
 have h5 := ha.terms
 rw [it_eq]
 have c1 := auEqual_c a.aut b.aut ha.aut
 have c2 := EqualLocs_c a.locs b.locs (by omega)
 have c3 := EqualTerms_c a.terms b.terms (by omega)
 simp only [AU.d] at c1
 (refine ACalls.of_body Ty_ok mixed Tryz.func42 rfl (by kernel_rfl) Tryz.ntmps42 (by simp) (congrArg Array.toList Tryz.results42) ?_)
 simp only [slotsOf, It.d]
 (repeat' (first | (with_reducible first | exact True.intro | refine And.intro ?_ ?_ | refine aBl ?_ | (refine aS 5 [] ?_; intro K hK)) | ((with_reducible first | refine aGo ?_); simp only [go_sem]) | ((with_reducible refine aCd ?_ ?_ (fun hb => ?_) (fun hb => ?_)); (iterate 2 simp only [go_sem]); all_goals (simp only [go_sem] at hb; try simp only [bls] at hb)) | ((iterate 6 try ((fail_if_success with_reducible refine hK _ ?_ ?_ ?_); clear hK K)); with_reducible refine hK _ ?_ ?_ ?_; rotate_left; (focus (simp only [go_sem]; exact rfl)); clear hK K) | ((first | (with_reducible first | refine xA ?_ | refine xD ?_ | refine xO ?_ | refine xR ?_ | refine xG ?_ | refine xH ?_ | refine xM ?_) | ((with_reducible refine gA ?_); refine xA ?_) | ((with_reducible refine gD ?_); refine xD ?_) | ((with_reducible refine gG ?_); refine xG ?_)); simp only [go_sem]) | (with_reducible refine aGs (fun hg0 => ?_) (fun hg0 => ?_) <;> first | (with_reducible first | exact aF1 hg0 | exact aF2 hg0) | (simp only [hg0, go_sem])) | (with_reducible refine aNk ?_; intro bnil hnil; try simp only []) | exact aZ | fail))
 rw [Bool.eq_iff_iff]; simp only [Bool.and_eq_true, beq_iff_eq, decide_eq_true_eq]
set_option maxHeartbeats 8000000 in
theorem SameInts_c (xs ys : List Int) (hn : xs.length ≤ 1000000) : ACalls Tryz.prog 36 [.one (.list (ints xs)), .one (.list (ints ys))] (.one (.bool (decide (xs = ys)))) [] := by
 (refine ACalls.of_body Ty_ok mixed Tryz.func36 rfl (by kernel_rfl) Tryz.ntmps36 (by simp) (congrArg Array.toList Tryz.results36) ?_)
 simp only [slotsOf]
 (repeat' (first | (with_reducible first | exact True.intro | refine And.intro ?_ ?_ | refine aBl ?_ | (refine aS 6 [] ?_; intro K hK)) | ((with_reducible first | refine aGo ?_ | refine rD (id := 6) ?_); simp only [go_sem]) | ((with_reducible refine aCd ?_ ?_ (fun hb => ?_) (fun hb => ?_)); (iterate 2 simp only [go_sem]); all_goals (simp only [go_sem] at hb; try simp only [bls] at hb)) | ((iterate 6 try ((fail_if_success with_reducible refine hK _ ?_ ?_ ?_); clear hK K)); with_reducible refine hK _ ?_ ?_ ?_; rotate_left; (focus (simp only [go_sem]; exact rfl)); clear hK K) | (with_reducible refine aGs (fun hg0 => ?_) (fun hg0 => ?_) <;> first | (with_reducible first | exact aF1 hg0 | exact aF2 hg0) | (simp only [hg0, go_sem])) | (with_reducible refine aNk ?_; intro bnil hnil; try simp only []) | exact aZ | fail))
 ·have : xs ≠ ys := by rintro rfl; omega
  simp [this]
 refine awp_loop _ (by simp only [go_sem]; rfl) Nat (fun k => k ≤ xs.length ∧ decide (xs = ys) = decide (xs.drop k = ys.drop k)) (fun k => [(5, .one (.int .i64 k))]) (fun _ H => H) (fun k => xs.length - k) 0 ⟨by omega, by simp⟩ ?_ ?_
 ·(simp only [SubF, go_sem]; (try simp only [go_sem]); repeat' (first | exact True.intro | with_reducible refine And.intro ?_ ?_ | rfl | omega))
 ·rintro k ⟨hk, hres⟩ L hL
  have hq : ((k : Nat) : Int).toNat = k := by omega
  (simp only [go_sem] at hL ⊢)
  (repeat' (first | (with_reducible first | exact True.intro | refine And.intro ?_ ?_ | refine aBl ?_ | (refine aS 6 [] ?_; intro K hK)) | ((with_reducible first | refine aGo ?_ | refine rD (id := 6) ?_); simp only [hq, go_sem]) | ((with_reducible refine aCd ?_ ?_ (fun hb => ?_) (fun hb => ?_)); (iterate 2 simp only [hq, go_sem]); all_goals (simp only [hq, go_sem] at hb; try simp only [bls] at hb)) | ((iterate 6 try ((fail_if_success with_reducible refine hK _ ?_ ?_ ?_); clear hK K)); with_reducible refine hK _ ?_ ?_ ?_; rotate_left; (focus (simp only [hq, go_sem]; exact rfl)); clear hK K) | (with_reducible refine aGs (fun hg0 => ?_) (fun hg0 => ?_) <;> first | (with_reducible first | exact aF1 hg0 | exact aF2 hg0) | (simp only [hg0, hq, go_sem])) | (with_reducible refine aNk ?_; intro bnil hnil; try simp only []) | exact aZ | fail))
  ·rw [eqq_step (d := 0) (by omega) (by omega) hres, decide_eq_false hb]; rfl
  ·have h1 := eqq_step (d := 0) (by omega) (by omega) hres
   rw [decide_eq_true hb, Bool.true_and] at h1
   exact hL _ (k + 1) ⟨by omega, h1⟩ (by (simp only [SubF, go_sem]; (try simp only [go_sem]); repeat' (first | exact True.intro | with_reducible refine And.intro ?_ ?_ | rfl | omega))) (by omega)
  ·rw [hres, drop_end xs k (by omega), drop_end ys k (by omega)]; rfl
set_option maxHeartbeats 8000000 in
theorem auSame_c (a b : AU) (ha : a.Fits) : ACalls Tryz.prog 71 [.agg a.d, .agg b.d] (.one (.bool (decide (a = b)))) [] := by
 obtain ⟨h1, h2, h3⟩ := ha
 rw [au_eq]
 have c1 := SameInts_c a.alpha b.alpha (by omega)
 have c2 := SameInts_c a.marked b.marked (by omega)
 generalize hA : decide (a.alpha = b.alpha) = A at *
 generalize hM : decide (a.marked = b.marked) = M at *
 generalize hS : decide (a.states = b.states) = S at *
 have hSi : S = true ↔ a.states = b.states := by rw [← hS]; simp
 have hEl : a.edges.length ≠ b.edges.length → decide (a.edges = b.edges) = false := fun h => decide_eq_false (fun e => h (by rw [e]))
 generalize hE : decide (a.edges = b.edges) = E at *
 generalize hRR : (A && S && M && E) = RR
 (refine ACalls.of_body Ty_ok mixed Tryz.func71 rfl (by kernel_rfl) Tryz.ntmps71 (by simp) (congrArg Array.toList Tryz.results71) ?_)
 simp only [slotsOf, AU.d]
 (repeat' (first | (with_reducible first | exact True.intro | refine And.intro ?_ ?_ | refine aBl ?_ | (refine aS 6 [] ?_; intro K hK)) | ((with_reducible first | refine aGo ?_ | refine rD (id := 6) ?_); simp only [go_sem]) | ((with_reducible refine aCd ?_ ?_ (fun hb => ?_) (fun hb => ?_)); (iterate 2 simp only [go_sem]); all_goals (simp only [go_sem] at hb; try simp only [bls] at hb)) | ((iterate 6 try ((fail_if_success with_reducible refine hK _ ?_ ?_ ?_); clear hK K)); with_reducible refine hK _ ?_ ?_ ?_; rotate_left; (focus (simp only [go_sem]; exact rfl)); clear hK K) | ((first | (with_reducible first | refine xA ?_ | refine xD ?_ | refine xO ?_ | refine xR ?_ | refine xG ?_ | refine xH ?_ | refine xM ?_) | ((with_reducible refine gA ?_); refine xA ?_) | ((with_reducible refine gD ?_); refine xD ?_) | ((with_reducible refine gG ?_); refine xG ?_)); simp only [go_sem]) | (with_reducible refine aGs (fun hg0 => ?_) (fun hg0 => ?_) <;> first | (with_reducible first | exact aF1 hg0 | exact aF2 hg0) | (simp only [hg0, go_sem])) | (with_reducible refine aNk ?_; intro bnil hnil; try simp only []) | exact aZ | fail))
 all_goals first | omega | skip
 ·rcases hb with ((h | h) | h) | h
  ·rw [← hRR, h]; rfl
  ·have : S = false := by cases S; rfl; exact absurd (hSi.1 rfl) h
   rw [← hRR, this]; simp
  ·rw [← hRR, h]; simp
  ·rw [← hRR, hEl (by omega)]; simp
 obtain ⟨⟨⟨hA1, hS1⟩, hM1⟩, hl1⟩ := hb
 have hS2 := hSi.2 hS1
 rw [hA1, hS2, hM1] at hRR
 simp only [Bool.true_and] at hRR
 subst hRR
 refine awp_loop _ (by simp only [go_sem]; rfl) Nat (fun k => k ≤ a.edges.length ∧ E = decide (a.edges.drop k = b.edges.drop k)) (fun k => [(5, .one (.int .i64 k))]) (fun _ H => H) (fun k => a.edges.length - k) 0 ⟨by omega, by simpa using hE.symm⟩ ?_ ?_
 ·(simp only [SubF, go_sem]; (try simp only [go_sem]); repeat' (first | exact True.intro | with_reducible refine And.intro ?_ ?_ | rfl | omega))
 rintro k ⟨hk, hres⟩ L hL
 have hq : ((k : Nat) : Int).toNat = k := by omega
 by_cases hlt : k < a.edges.length
 ·have h1 := eqq_step (d := Ed.no) (by omega) hlt hres
  (simp only [go_sem] at hL ⊢)
  (repeat' (first | (with_reducible first | exact True.intro | refine And.intro ?_ ?_ | refine aBl ?_ | (refine aS 6 [] ?_; intro K hK)) | ((with_reducible first | refine aGo ?_ | refine rD (id := 6) ?_); simp only [hq, go_sem]) | ((with_reducible refine aCd ?_ ?_ (fun hb => ?_) (fun hb => ?_)); (iterate 2 simp only [hq, go_sem]); all_goals (simp only [hq, go_sem] at hb; try simp only [bls] at hb)) | ((iterate 6 try ((fail_if_success with_reducible refine hK _ ?_ ?_ ?_); clear hK K)); with_reducible refine hK _ ?_ ?_ ?_; rotate_left; (focus (simp only [hq, go_sem]; exact rfl)); clear hK K) | (with_reducible refine aGs (fun hg0 => ?_) (fun hg0 => ?_) <;> first | (with_reducible first | exact aF1 hg0 | exact aF2 hg0) | (simp only [hg0, hq, go_sem])) | (with_reducible refine aNk ?_; intro bnil hnil; try simp only []) | exact aZ | fail))
  all_goals first | omega | skip
  ·rw [h1, decide_eq_false]
   ·rfl
   ·intro h; rw [h] at hb; simp at hb
  ·rw [decide_eq_true (ed_ext (by simpa using hb)), Bool.true_and] at h1
   exact hL _ (k + 1) ⟨by omega, h1⟩ (by (simp only [SubF, go_sem]; (try simp only [go_sem]); repeat' (first | exact True.intro | with_reducible refine And.intro ?_ ?_ | rfl | omega))) (by omega)
 ·(simp only [go_sem] at hL ⊢)
  (repeat' (first | (with_reducible first | exact True.intro | refine And.intro ?_ ?_ | refine aBl ?_ | (refine aS 6 [] ?_; intro K hK)) | ((with_reducible first | refine aGo ?_ | refine rD (id := 6) ?_); simp only [go_sem]) | ((with_reducible refine aCd ?_ ?_ (fun hb => ?_) (fun hb => ?_)); (iterate 2 simp only [go_sem]); all_goals (simp only [go_sem] at hb; try simp only [bls] at hb)) | ((iterate 6 try ((fail_if_success with_reducible refine hK _ ?_ ?_ ?_); clear hK K)); with_reducible refine hK _ ?_ ?_ ?_; rotate_left; (focus (simp only [go_sem]; exact rfl)); clear hK K) | (with_reducible refine aGs (fun hg0 => ?_) (fun hg0 => ?_) <;> first | (with_reducible first | exact aF1 hg0 | exact aF2 hg0) | (simp only [hg0, go_sem])) | (with_reducible refine aNk ?_; intro bnil hnil; try simp only []) | exact aZ | fail))
  all_goals first | omega | skip
  rw [hres, drop_end a.edges k (by omega), drop_end b.edges k (by omega)]; rfl
theorem clone_c (x : It) (hf : x.Fits) : ACalls Tryz.prog 51 [.agg x.d] (.agg x.d) [] := by
 obtain ⟨h1, h2, h3⟩ := hf.aut
 have h4 := hf.locs
 have h5 := hf.terms
 have c1 := ACalls.frozen (CloneInts_c x.aut.alpha (by omega))
 have c2 := ACalls.frozen (CloneInts_c x.aut.marked (by omega))
 have c3 := ACalls.frozen (CloneEds_c x.aut.edges (by omega))
 have c4 := ACalls.frozen (CloneLocs_c x.locs (by omega))
 have c5 := ACalls.frozen (CloneTerms_c x.terms (by omega))
 (refine ACalls.of_body Ty_ok mixed Tryz.func51 rfl (by kernel_rfl) Tryz.ntmps51 (by simp) (congrArg Array.toList Tryz.results51) ?_)
 simp only [slotsOf, It.d]
 (repeat' (first | (with_reducible first | exact True.intro | refine And.intro ?_ ?_ | refine aBl ?_ | (refine aS 4 [] ?_; intro K hK)) | ((with_reducible first | refine aGo ?_ | refine rP Ty_ok mixed 2 [0, 3, 5, 8] [.mid [pe 1, ⟨2, 0, true, false, false, [], []⟩, ⟨4, 1, false, false, false, [0], []⟩, ⟨6, 1, false, false, false, [0], []⟩, ⟨7, 1, true, false, false, [], []⟩, ⟨9, 2, false, false, false, [1, 0], []⟩, ⟨10, 2, true, false, false, [], []⟩, ⟨11, 3, false, false, false, [], []⟩, ⟨12, 3, false, false, false, [], []⟩] 3, .one 13] ?_ | refine rP Ty_ok mixed 3 [0, 3] [.mid [pe 1, ⟨2, 0, true, false, false, [], []⟩, ⟨4, 1, false, false, false, [0], []⟩, ⟨6, 1, false, true, false, [], []⟩] 1, .one 5, .one 7, .one 8, .one 9] ?_); simp only [go_sem]) | ((with_reducible refine aCd ?_ ?_ (fun hb => ?_) (fun hb => ?_)); (iterate 2 simp only [go_sem]); all_goals (simp only [go_sem] at hb; try simp only [bls] at hb)) | ((iterate 6 try ((fail_if_success with_reducible refine hK _ ?_ ?_ ?_); clear hK K)); with_reducible refine hK _ ?_ ?_ ?_; rotate_left; (focus (simp only [go_sem]; exact rfl)); clear hK K) | ((first | (with_reducible first | refine xA ?_ | refine xD ?_ | refine xO ?_ | refine xR ?_ | refine xG ?_ | refine xH ?_ | refine xM ?_) | ((with_reducible refine gA ?_); refine xA ?_) | ((with_reducible refine gD ?_); refine xD ?_) | ((with_reducible refine gG ?_); refine xG ?_)); simp only [go_sem]) | (with_reducible refine aGs (fun hg0 => ?_) (fun hg0 => ?_) <;> first | (with_reducible first | exact aF1 hg0 | exact aF2 hg0) | (simp only [hg0, go_sem])) | (with_reducible refine aNk ?_; intro bnil hnil; try simp only []) | exact aZ | fail))
 all_goals first | omega | rfl | skip
set_option maxHeartbeats 8000000 in
theorem cloneAll_c (l : List It) (hf : LFits l) : ACalls Tryz.prog 49 [.one (.list (itD l))] (.one (.own 0)) [.row 30 9 (itD l)] := by
 have hl := hf.len
 (refine ACalls.of_body_own Ty_ok mixed Tryz.func49 rfl (by kernel_rfl) Tryz.ntmps49 (by simp) (congrArg Array.toList Tryz.results49) ?_)
 simp only [slotsOf]
 (repeat' (first | (with_reducible first | exact True.intro | refine And.intro ?_ ?_ | refine aBl ?_ | (refine aS 9 [] ?_; intro K hK)) | ((with_reducible first | refine aGo ?_); simp only [go_sem]) | ((with_reducible refine aCd ?_ ?_ (fun hb => ?_) (fun hb => ?_)); (iterate 2 simp only [go_sem]); all_goals (simp only [go_sem] at hb; try simp only [bls] at hb)) | ((iterate 6 try ((fail_if_success with_reducible refine hK _ ?_ ?_ ?_); clear hK K)); with_reducible refine hK _ ?_ ?_ ?_; rotate_left; (focus (simp only [go_sem]; exact rfl)); clear hK K) | (with_reducible refine aGs (fun hg0 => ?_) (fun hg0 => ?_) <;> first | (with_reducible first | exact aF1 hg0 | exact aF2 hg0) | (simp only [hg0, go_sem])) | (with_reducible refine aNk ?_; intro bnil hnil; try simp only []) | exact aZ | fail))
 all_goals first | omega | skip
 refine awp_loop _ (by simp only [go_sem]; rfl) Nat (fun k => k ≤ l.length) (fun k => [(3, .one (.own 1)), (8, .one (.int .i64 k))]) (fun k H => H.set 1 (.row 30 9 (itD (l.take k)))) (fun k => l.length - k) 0 (by omega) ?_ ?_
 ·have e0 : itD (l.take 0) = [] := rfl
  rw [e0]
  (simp only [SubF, List.set_cons_succ, List.set_cons_zero, go_sem]; (try simp only [List.set_cons_succ, List.set_cons_zero, go_sem]); repeat' (first | exact True.intro | with_reducible refine And.intro ?_ ?_ | rfl | omega))
 rintro k hk L hL
 have hq : ((k : Nat) : Int).toNat = k := by omega
 have hml : (l.take k).length = k := by rw [List.length_take]; omega
 by_cases hlt : k < l.length
 ·have hg := itD_get hlt [.int .i64 0, .str [], .nil, .int .i64 0, .nil, .nil, .nil, .nil, .int .i64 0]
  have hc := clone_c _ (hf.get hlt)
  have hs : itD (l.take (k + 1)) = itD (l.take k) ++ [(l.getD k It.no).d] := by rw [take_succ_getD l k It.no hlt, ← itD_append]; rfl
  generalize l.getD k It.no = e at *
  simp only [It.d] at hg hc hs
  (simp only [List.set_cons_succ, List.set_cons_zero, go_sem] at hL ⊢)
  (repeat' (first | (with_reducible first | exact True.intro | refine And.intro ?_ ?_ | refine aBl ?_ | (refine aS 9 [] ?_; intro K hK)) | ((with_reducible first | refine aGo ?_); simp only [hg, hq, go_sem]) | ((with_reducible refine aCd ?_ ?_ (fun hb => ?_) (fun hb => ?_)); (iterate 2 simp only [hg, hq, go_sem]); all_goals (simp only [hg, hq, go_sem] at hb; try simp only [bls] at hb)) | ((iterate 6 try ((fail_if_success with_reducible refine hK _ ?_ ?_ ?_); clear hK K)); with_reducible refine hK _ ?_ ?_ ?_; rotate_left; (focus (simp only [hg, hq, go_sem]; exact rfl)); clear hK K) | ((first | (with_reducible first | refine xA ?_ | refine xD ?_ | refine xO ?_ | refine xR ?_ | refine xG ?_ | refine xH ?_ | refine xM ?_) | ((with_reducible refine gA ?_); refine xA ?_) | ((with_reducible refine gD ?_); refine xD ?_) | ((with_reducible refine gG ?_); refine xG ?_)); simp only [hg, hq, go_sem]) | (with_reducible refine aGs (fun hg0 => ?_) (fun hg0 => ?_) <;> first | (with_reducible first | exact aF1 hg0 | exact aF2 hg0) | (simp only [hg0, hg, hq, go_sem])) | (with_reducible refine aNk ?_; intro bnil hnil; try simp only []) | exact aZ | fail))
  all_goals first | omega | skip
  refine hL _ (k + 1) (by omega) ?_ (by omega)
  rw [hs]
  (simp only [SubF, List.set_cons_succ, List.set_cons_zero, go_sem]; (try simp only [List.set_cons_succ, List.set_cons_zero, go_sem]); repeat' (first | exact True.intro | with_reducible refine And.intro ?_ ?_ | rfl | omega))
 ·have hkl : k = l.length := by omega
  subst hkl
  rw [List.take_length] at *
  (simp only [List.set_cons_succ, List.set_cons_zero, go_sem] at hL ⊢)
  (repeat' (first | (with_reducible first | exact True.intro | refine And.intro ?_ ?_ | refine aBl ?_ | (refine aS 9 [] ?_; intro K hK)) | ((with_reducible first | refine aGo ?_); simp only [go_sem]) | ((with_reducible refine aCd ?_ ?_ (fun hb => ?_) (fun hb => ?_)); (iterate 2 simp only [go_sem]); all_goals (simp only [go_sem] at hb; try simp only [bls] at hb)) | ((iterate 6 try ((fail_if_success with_reducible refine hK _ ?_ ?_ ?_); clear hK K)); with_reducible refine hK _ ?_ ?_ ?_; rotate_left; (focus (simp only [go_sem]; exact rfl)); clear hK K) | (with_reducible refine aGs (fun hg0 => ?_) (fun hg0 => ?_) <;> first | (with_reducible first | exact aF1 hg0 | exact aF2 hg0) | (simp only [hg0, go_sem])) | (with_reducible refine aNk ?_; intro bnil hnil; try simp only []) | exact aZ | fail))
  all_goals first | omega | rfl | skip
end Go.Proofs.YtkjnjkdcpbgabaaGreatDoor
