/-
 Chapter 23: the law's shuffled, where it holds.
-/
import Derived.Test.YtkjnjkdcpbgabaaGreatDoorUF
set_option linter.unusedSimpArgs false
set_option linter.unusedVariables false
namespace Go.Proofs.YtkjnjkdcpbgabaaGreatDoor
open Go.Eng Go.RowKit
def It.bare (x : It) : It := ⟨x.kind, x.name, x.aut, [], [], x.bound⟩
structure Shuf (a b : It) : Prop where
 ll : a.locs.length = b.locs.length
 tl : a.terms.length = b.terms.length
 locs : ∀ x ∈ a.locs, x ∈ b.locs
 terms : ∀ x ∈ a.terms, x ∈ b.terms
 bare : a.bare = b.bare
set_option maxHeartbeats 16000000 in
set_option maxRecDepth 100000 in
theorem shuffled_c (a b : It) (ha : a.Fits) (h : Shuf a b) : ACalls Tryz.prog 28 [.agg a.d, .agg b.d] (.one (.bool true)) [] := by
 obtain ⟨hll, htl, hlocs, hterms, hbare⟩ := h
 have f1 := ha.locs
 have f2 := ha.terms
 have hx1 : ((a.locs.length : Int) != b.locs.length) = false := by rw [hll]; simp
 have hx2 : ((a.terms.length : Int) != b.terms.length) = false := by rw [htl]; simp
 have c1 := same_c a.bare b.bare ⟨ha.name, ha.aut, Nat.zero_le _, Nat.zero_le _, fun y hy => by simp [It.bare] at hy, fun y hy => by simp [It.bare] at hy⟩
 rw [decide_eq_true hbare] at c1
 clear hbare ha
 simp only [It.d, It.bare, show ltD [] = [] from rfl] at c1
 (refine ACalls.of_body Ty_ok mixed Tryz.func28 rfl (by kernel_rfl) Tryz.ntmps28 (by simp) (congrArg Array.toList Tryz.results28) ?_)
 simp only [slotsOf, It.d]
 (repeat' (first | (with_reducible first | exact True.intro | refine And.intro ?_ ?_ | refine aBl ?_ | (refine aS 11 [] ?_; intro K hK)) | ((with_reducible first | refine aGo ?_ | refine rD (id := 10) ?_ | refine rD (id := 20) ?_); simp only [hx1, hx2, go_sem]) | ((with_reducible refine aCd ?_ ?_ (fun hb => ?_) (fun hb => ?_)); (iterate 2 simp only [hx1, hx2, go_sem]); all_goals (simp only [hx1, hx2, go_sem] at hb; try simp only [bls] at hb)) | ((iterate 6 try ((fail_if_success with_reducible refine hK _ ?_ ?_ ?_); clear hK K)); with_reducible refine hK _ ?_ ?_ ?_; rotate_left; (focus (simp only [hx1, hx2, go_sem]; exact rfl)); clear hK K) | (with_reducible refine aGs (fun hg0 => ?_) (fun hg0 => ?_) <;> first | (with_reducible first | exact aF1 hg0 | exact aF2 hg0) | (simp only [hg0, hx1, hx2, go_sem])) | (with_reducible refine aNk ?_; intro bnil hnil; try simp only []) | exact aZ | fail))
 all_goals first | omega | skip
 refine awp_loop _ (by simp only [go_sem]; rfl) Nat (fun k => k ≤ a.locs.length) (fun k => [(5, .one (.int .i64 k))]) (fun _ H => H) (fun k => a.locs.length - k) 0 (by omega) ?_ ?_
 ·(simp only [SubF, go_sem]; (try simp only [go_sem]); repeat' (first | exact True.intro | with_reducible refine And.intro ?_ ?_ | rfl | omega))
 rintro i hi Lo hLo
 have hq : ((i : Nat) : Int).toNat = i := by omega
 rcases (Decidable.em (i < a.locs.length)) with hlt | hlt
 ·have hlf : decide ((i : Int) < a.locs.length) = true := decide_eq_true (by omega)
  have hmem := hlocs _ (getD_mem a.locs i Lt.no hlt)
  generalize hyd : a.locs.getD i Lt.no = y at *
  (simp only [go_sem] at hLo ⊢)
  (repeat' (first | (with_reducible first | exact True.intro | refine And.intro ?_ ?_ | refine aBl ?_ | (refine aS 11 [] ?_; intro K hK)) | ((with_reducible first | refine aGo ?_ | refine rD (id := 10) ?_ | refine rD (id := 20) ?_); simp only [hq, hlf, go_sem]) | ((with_reducible refine aCd ?_ ?_ (fun hb => ?_) (fun hb => ?_)); (iterate 2 simp only [hq, hlf, go_sem]); all_goals (simp only [hq, hlf, go_sem] at hb; try simp only [bls] at hb)) | ((iterate 6 try ((fail_if_success with_reducible refine hK _ ?_ ?_ ?_); clear hK K)); with_reducible refine hK _ ?_ ?_ ?_; rotate_left; (focus (simp only [hq, hlf, go_sem]; exact rfl)); clear hK K) | (with_reducible refine aGs (fun hg0 => ?_) (fun hg0 => ?_) <;> first | (with_reducible first | exact aF1 hg0 | exact aF2 hg0) | (simp only [hg0, hq, hlf, go_sem])) | (with_reducible refine aNk ?_; intro bnil hnil; try simp only []) | exact aZ | fail))
  all_goals first | omega | skip
  refine awp_loop _ (by simp only [go_sem]; rfl) (Nat × Bool) (fun z => z.1 ≤ b.locs.length ∧ (z.2 = true ∨ y ∈ b.locs.drop z.1)) (fun z => [(6, .one (.bool z.2)), (7, .one (.int .i64 z.1))]) (fun _ H => H) (fun z => b.locs.length - z.1) (0, false) ⟨by omega, .inr (by simpa using hmem)⟩ ?_ ?_
  ·(simp only [SubF, go_sem]; (try simp only [go_sem]); repeat' (first | exact True.intro | with_reducible refine And.intro ?_ ?_ | rfl | omega))
  rintro ⟨j, f⟩ ⟨hj, hf2⟩ L hL
  dsimp only at hj hf2
  have hqj : ((j : Nat) : Int).toNat = j := by omega
  rcases (Decidable.em (j < b.locs.length)) with hjl | hjl
  ·have hjf : decide ((j : Int) < b.locs.length) = true := decide_eq_true (by omega)
   rw [drop_getD b.locs j Lt.no hjl] at hf2
   generalize hzd : b.locs.getD j Lt.no = x at *
   cases f with
   | true =>
    (simp only [go_sem] at hL ⊢)
    (repeat' (first | (with_reducible first | exact True.intro | refine And.intro ?_ ?_ | refine aBl ?_ | (refine aS 11 [] ?_; intro K hK)) | ((with_reducible first | refine aGo ?_ | refine rD (id := 10) ?_ | refine rD (id := 20) ?_); simp only [hq, hqj, hjf, hyd, hzd, go_sem]) | ((with_reducible refine aCd ?_ ?_ (fun hb => ?_) (fun hb => ?_)); (iterate 2 simp only [hq, hqj, hjf, hyd, hzd, go_sem]); all_goals (simp only [hq, hqj, hjf, hyd, hzd, go_sem] at hb; try simp only [bls] at hb)) | ((iterate 6 try ((fail_if_success with_reducible refine hK _ ?_ ?_ ?_); clear hK K)); with_reducible refine hK _ ?_ ?_ ?_; rotate_left; (focus (simp only [hq, hqj, hjf, hyd, hzd, go_sem]; exact rfl)); clear hK K) | (with_reducible refine aGs (fun hg0 => ?_) (fun hg0 => ?_) <;> first | (with_reducible first | exact aF1 hg0 | exact aF2 hg0) | (simp only [hg0, hq, hqj, hjf, hyd, hzd, go_sem])) | (with_reducible refine aNk ?_; intro bnil hnil; try simp only []) | exact aZ | fail))
    all_goals first | omega | skip
    exact hL _ (j + 1, true) ⟨by omega, .inl rfl⟩ (by (simp only [SubF, go_sem]; (try simp only [go_sem]); repeat' (first | exact True.intro | with_reducible refine And.intro ?_ ?_ | rfl | omega))) (by dsimp only; omega)
   | false =>
    rcases (Decidable.em (y = x)) with hyx | hyx
    ·subst hyx
     (simp only [go_sem] at hL ⊢)
     (repeat' (first | (with_reducible first | exact True.intro | refine And.intro ?_ ?_ | refine aBl ?_ | (refine aS 11 [] ?_; intro K hK)) | ((with_reducible first | refine aGo ?_ | refine rD (id := 10) ?_ | refine rD (id := 20) ?_); simp only [hq, hqj, hjf, hyd, hzd, go_sem]) | ((with_reducible refine aCd ?_ ?_ (fun hb => ?_) (fun hb => ?_)); (iterate 2 simp only [hq, hqj, hjf, hyd, hzd, go_sem]); all_goals (simp only [hq, hqj, hjf, hyd, hzd, go_sem] at hb; try simp only [bls] at hb)) | ((iterate 6 try ((fail_if_success with_reducible refine hK _ ?_ ?_ ?_); clear hK K)); with_reducible refine hK _ ?_ ?_ ?_; rotate_left; (focus (simp only [hq, hqj, hjf, hyd, hzd, go_sem]; exact rfl)); clear hK K) | (with_reducible refine aGs (fun hg0 => ?_) (fun hg0 => ?_) <;> first | (with_reducible first | exact aF1 hg0 | exact aF2 hg0) | (simp only [hg0, hq, hqj, hjf, hyd, hzd, go_sem])) | (with_reducible refine aNk ?_; intro bnil hnil; try simp only []) | exact aZ | fail))
     all_goals first | omega | skip
     exact hL _ (j + 1, true) ⟨by omega, .inl rfl⟩ (by (simp only [SubF, go_sem]; (try simp only [go_sem]); repeat' (first | exact True.intro | with_reducible refine And.intro ?_ ?_ | rfl | omega))) (by dsimp only; omega)
    ·have hmem2 : y ∈ b.locs.drop (j + 1) := by
      rcases hf2 with h | h
      ·cases h
      ·exact (List.mem_cons.1 h).resolve_left hyx
     (simp only [go_sem] at hL ⊢)
     (repeat' (first | (with_reducible first | exact True.intro | refine And.intro ?_ ?_ | refine aBl ?_ | (refine aS 11 [] ?_; intro K hK)) | ((with_reducible first | refine aGo ?_ | refine rD (id := 10) ?_ | refine rD (id := 20) ?_); simp only [hq, hqj, hjf, hyd, hzd, go_sem]) | ((with_reducible refine aCd ?_ ?_ (fun hb => ?_) (fun hb => ?_)); (iterate 2 simp only [hq, hqj, hjf, hyd, hzd, go_sem]); all_goals (simp only [hq, hqj, hjf, hyd, hzd, go_sem] at hb; try simp only [bls] at hb)) | ((iterate 6 try ((fail_if_success with_reducible refine hK _ ?_ ?_ ?_); clear hK K)); with_reducible refine hK _ ?_ ?_ ?_; rotate_left; (focus (simp only [hq, hqj, hjf, hyd, hzd, go_sem]; exact rfl)); clear hK K) | (with_reducible refine aGs (fun hg0 => ?_) (fun hg0 => ?_) <;> first | (with_reducible first | exact aF1 hg0 | exact aF2 hg0) | (simp only [hg0, hq, hqj, hjf, hyd, hzd, go_sem])) | (with_reducible refine aNk ?_; intro bnil hnil; try simp only []) | exact aZ | fail))
     all_goals first | omega | skip
     exact hL _ (j + 1, y.name == x.name && y.val == x.val) ⟨by omega, .inr hmem2⟩ (by (simp only [SubF, go_sem]; (try simp only [go_sem]); repeat' (first | exact True.intro | with_reducible refine And.intro ?_ ?_ | rfl | omega))) (by dsimp only; omega)
  have hjk : j = b.locs.length := by omega
  subst hjk
  have hjf : decide ((b.locs.length : Int) < b.locs.length) = false := decide_eq_false (by omega)
  have hft : f = true := hf2.resolve_right (by rw [List.drop_length]; simp)
  subst hft
  (simp only [go_sem] at hL ⊢)
  (repeat' (first | (with_reducible first | exact True.intro | refine And.intro ?_ ?_ | refine aBl ?_ | (refine aS 11 [] ?_; intro K hK)) | ((with_reducible first | refine aGo ?_ | refine rD (id := 10) ?_ | refine rD (id := 20) ?_); simp only [hq, hjf, go_sem]) | ((with_reducible refine aCd ?_ ?_ (fun hb => ?_) (fun hb => ?_)); (iterate 2 simp only [hq, hjf, go_sem]); all_goals (simp only [hq, hjf, go_sem] at hb; try simp only [bls] at hb)) | ((iterate 6 try ((fail_if_success with_reducible refine hK _ ?_ ?_ ?_); clear hK K)); with_reducible refine hK _ ?_ ?_ ?_; rotate_left; (focus (simp only [hq, hjf, go_sem]; exact rfl)); clear hK K) | (with_reducible refine aGs (fun hg0 => ?_) (fun hg0 => ?_) <;> first | (with_reducible first | exact aF1 hg0 | exact aF2 hg0) | (simp only [hg0, hq, hjf, go_sem])) | (with_reducible refine aNk ?_; intro bnil hnil; try simp only []) | exact aZ | fail))
  all_goals first | omega | skip
  exact hLo _ (i + 1) (by omega) (by (simp only [SubF, go_sem]; (try simp only [go_sem]); repeat' (first | exact True.intro | with_reducible refine And.intro ?_ ?_ | rfl | omega))) (by omega)
 have hik : i = a.locs.length := by omega
 subst hik
 have hlf : decide ((a.locs.length : Int) < a.locs.length) = false := decide_eq_false (by omega)
 (simp only [go_sem] at hLo ⊢)
 (repeat' (first | (with_reducible first | exact True.intro | refine And.intro ?_ ?_ | refine aBl ?_ | (refine aS 11 [] ?_; intro K hK)) | ((with_reducible first | refine aGo ?_ | refine rD (id := 10) ?_ | refine rD (id := 20) ?_); simp only [hlf, go_sem]) | ((with_reducible refine aCd ?_ ?_ (fun hb => ?_) (fun hb => ?_)); (iterate 2 simp only [hlf, go_sem]); all_goals (simp only [hlf, go_sem] at hb; try simp only [bls] at hb)) | ((iterate 6 try ((fail_if_success with_reducible refine hK _ ?_ ?_ ?_); clear hK K)); with_reducible refine hK _ ?_ ?_ ?_; rotate_left; (focus (simp only [hlf, go_sem]; exact rfl)); clear hK K) | (with_reducible refine aGs (fun hg0 => ?_) (fun hg0 => ?_) <;> first | (with_reducible first | exact aF1 hg0 | exact aF2 hg0) | (simp only [hg0, hlf, go_sem])) | (with_reducible refine aNk ?_; intro bnil hnil; try simp only []) | exact aZ | fail))
 all_goals first | omega | skip
 clear hLo
 refine awp_loop _ (by simp only [go_sem]; rfl) Nat (fun k => k ≤ a.terms.length) (fun k => [(8, .one (.int .i64 k))]) (fun _ H => H) (fun k => a.terms.length - k) 0 (by omega) ?_ ?_
 ·(simp only [SubF, go_sem]; (try simp only [go_sem]); repeat' (first | exact True.intro | with_reducible refine And.intro ?_ ?_ | rfl | omega))
 rintro i hi Lo hLo
 have hq : ((i : Nat) : Int).toNat = i := by omega
 rcases (Decidable.em (i < a.terms.length)) with hlt | hlt
 ·have hlf : decide ((i : Int) < a.terms.length) = true := decide_eq_true (by omega)
  have hmem := hterms _ (getD_mem a.terms i Lt.no hlt)
  generalize hyd : a.terms.getD i Lt.no = y at *
  (simp only [go_sem] at hLo ⊢)
  (repeat' (first | (with_reducible first | exact True.intro | refine And.intro ?_ ?_ | refine aBl ?_ | (refine aS 11 [] ?_; intro K hK)) | ((with_reducible first | refine aGo ?_ | refine rD (id := 10) ?_ | refine rD (id := 20) ?_); simp only [hq, hlf, go_sem]) | ((with_reducible refine aCd ?_ ?_ (fun hb => ?_) (fun hb => ?_)); (iterate 2 simp only [hq, hlf, go_sem]); all_goals (simp only [hq, hlf, go_sem] at hb; try simp only [bls] at hb)) | ((iterate 6 try ((fail_if_success with_reducible refine hK _ ?_ ?_ ?_); clear hK K)); with_reducible refine hK _ ?_ ?_ ?_; rotate_left; (focus (simp only [hq, hlf, go_sem]; exact rfl)); clear hK K) | (with_reducible refine aGs (fun hg0 => ?_) (fun hg0 => ?_) <;> first | (with_reducible first | exact aF1 hg0 | exact aF2 hg0) | (simp only [hg0, hq, hlf, go_sem])) | (with_reducible refine aNk ?_; intro bnil hnil; try simp only []) | exact aZ | fail))
  all_goals first | omega | skip
  refine awp_loop _ (by simp only [go_sem]; rfl) (Nat × Bool) (fun z => z.1 ≤ b.terms.length ∧ (z.2 = true ∨ y ∈ b.terms.drop z.1)) (fun z => [(9, .one (.bool z.2)), (10, .one (.int .i64 z.1))]) (fun _ H => H) (fun z => b.terms.length - z.1) (0, false) ⟨by omega, .inr (by simpa using hmem)⟩ ?_ ?_
  ·(simp only [SubF, go_sem]; (try simp only [go_sem]); repeat' (first | exact True.intro | with_reducible refine And.intro ?_ ?_ | rfl | omega))
  rintro ⟨j, f⟩ ⟨hj, hf2⟩ L hL
  dsimp only at hj hf2
  have hqj : ((j : Nat) : Int).toNat = j := by omega
  rcases (Decidable.em (j < b.terms.length)) with hjl | hjl
  ·have hjf : decide ((j : Int) < b.terms.length) = true := decide_eq_true (by omega)
   rw [drop_getD b.terms j Lt.no hjl] at hf2
   generalize hzd : b.terms.getD j Lt.no = x at *
   cases f with
   | true =>
    (simp only [go_sem] at hL ⊢)
    (repeat' (first | (with_reducible first | exact True.intro | refine And.intro ?_ ?_ | refine aBl ?_ | (refine aS 11 [] ?_; intro K hK)) | ((with_reducible first | refine aGo ?_ | refine rD (id := 10) ?_ | refine rD (id := 20) ?_); simp only [hq, hqj, hjf, hyd, hzd, go_sem]) | ((with_reducible refine aCd ?_ ?_ (fun hb => ?_) (fun hb => ?_)); (iterate 2 simp only [hq, hqj, hjf, hyd, hzd, go_sem]); all_goals (simp only [hq, hqj, hjf, hyd, hzd, go_sem] at hb; try simp only [bls] at hb)) | ((iterate 6 try ((fail_if_success with_reducible refine hK _ ?_ ?_ ?_); clear hK K)); with_reducible refine hK _ ?_ ?_ ?_; rotate_left; (focus (simp only [hq, hqj, hjf, hyd, hzd, go_sem]; exact rfl)); clear hK K) | (with_reducible refine aGs (fun hg0 => ?_) (fun hg0 => ?_) <;> first | (with_reducible first | exact aF1 hg0 | exact aF2 hg0) | (simp only [hg0, hq, hqj, hjf, hyd, hzd, go_sem])) | (with_reducible refine aNk ?_; intro bnil hnil; try simp only []) | exact aZ | fail))
    all_goals first | omega | skip
    exact hL _ (j + 1, true) ⟨by omega, .inl rfl⟩ (by (simp only [SubF, go_sem]; (try simp only [go_sem]); repeat' (first | exact True.intro | with_reducible refine And.intro ?_ ?_ | rfl | omega))) (by dsimp only; omega)
   | false =>
    rcases (Decidable.em (y = x)) with hyx | hyx
    ·subst hyx
     (simp only [go_sem] at hL ⊢)
     (repeat' (first | (with_reducible first | exact True.intro | refine And.intro ?_ ?_ | refine aBl ?_ | (refine aS 11 [] ?_; intro K hK)) | ((with_reducible first | refine aGo ?_ | refine rD (id := 10) ?_ | refine rD (id := 20) ?_); simp only [hq, hqj, hjf, hyd, hzd, go_sem]) | ((with_reducible refine aCd ?_ ?_ (fun hb => ?_) (fun hb => ?_)); (iterate 2 simp only [hq, hqj, hjf, hyd, hzd, go_sem]); all_goals (simp only [hq, hqj, hjf, hyd, hzd, go_sem] at hb; try simp only [bls] at hb)) | ((iterate 6 try ((fail_if_success with_reducible refine hK _ ?_ ?_ ?_); clear hK K)); with_reducible refine hK _ ?_ ?_ ?_; rotate_left; (focus (simp only [hq, hqj, hjf, hyd, hzd, go_sem]; exact rfl)); clear hK K) | (with_reducible refine aGs (fun hg0 => ?_) (fun hg0 => ?_) <;> first | (with_reducible first | exact aF1 hg0 | exact aF2 hg0) | (simp only [hg0, hq, hqj, hjf, hyd, hzd, go_sem])) | (with_reducible refine aNk ?_; intro bnil hnil; try simp only []) | exact aZ | fail))
     all_goals first | omega | skip
     exact hL _ (j + 1, true) ⟨by omega, .inl rfl⟩ (by (simp only [SubF, go_sem]; (try simp only [go_sem]); repeat' (first | exact True.intro | with_reducible refine And.intro ?_ ?_ | rfl | omega))) (by dsimp only; omega)
    ·have hmem2 : y ∈ b.terms.drop (j + 1) := by
      rcases hf2 with h | h
      ·cases h
      ·exact (List.mem_cons.1 h).resolve_left hyx
     (simp only [go_sem] at hL ⊢)
     (repeat' (first | (with_reducible first | exact True.intro | refine And.intro ?_ ?_ | refine aBl ?_ | (refine aS 11 [] ?_; intro K hK)) | ((with_reducible first | refine aGo ?_ | refine rD (id := 10) ?_ | refine rD (id := 20) ?_); simp only [hq, hqj, hjf, hyd, hzd, go_sem]) | ((with_reducible refine aCd ?_ ?_ (fun hb => ?_) (fun hb => ?_)); (iterate 2 simp only [hq, hqj, hjf, hyd, hzd, go_sem]); all_goals (simp only [hq, hqj, hjf, hyd, hzd, go_sem] at hb; try simp only [bls] at hb)) | ((iterate 6 try ((fail_if_success with_reducible refine hK _ ?_ ?_ ?_); clear hK K)); with_reducible refine hK _ ?_ ?_ ?_; rotate_left; (focus (simp only [hq, hqj, hjf, hyd, hzd, go_sem]; exact rfl)); clear hK K) | (with_reducible refine aGs (fun hg0 => ?_) (fun hg0 => ?_) <;> first | (with_reducible first | exact aF1 hg0 | exact aF2 hg0) | (simp only [hg0, hq, hqj, hjf, hyd, hzd, go_sem])) | (with_reducible refine aNk ?_; intro bnil hnil; try simp only []) | exact aZ | fail))
     all_goals first | omega | skip
     exact hL _ (j + 1, y.name == x.name && y.val == x.val) ⟨by omega, .inr hmem2⟩ (by (simp only [SubF, go_sem]; (try simp only [go_sem]); repeat' (first | exact True.intro | with_reducible refine And.intro ?_ ?_ | rfl | omega))) (by dsimp only; omega)
  have hjk : j = b.terms.length := by omega
  subst hjk
  have hjf : decide ((b.terms.length : Int) < b.terms.length) = false := decide_eq_false (by omega)
  have hft : f = true := hf2.resolve_right (by rw [List.drop_length]; simp)
  subst hft
  (simp only [go_sem] at hL ⊢)
  (repeat' (first | (with_reducible first | exact True.intro | refine And.intro ?_ ?_ | refine aBl ?_ | (refine aS 11 [] ?_; intro K hK)) | ((with_reducible first | refine aGo ?_ | refine rD (id := 10) ?_ | refine rD (id := 20) ?_); simp only [hq, hjf, go_sem]) | ((with_reducible refine aCd ?_ ?_ (fun hb => ?_) (fun hb => ?_)); (iterate 2 simp only [hq, hjf, go_sem]); all_goals (simp only [hq, hjf, go_sem] at hb; try simp only [bls] at hb)) | ((iterate 6 try ((fail_if_success with_reducible refine hK _ ?_ ?_ ?_); clear hK K)); with_reducible refine hK _ ?_ ?_ ?_; rotate_left; (focus (simp only [hq, hjf, go_sem]; exact rfl)); clear hK K) | (with_reducible refine aGs (fun hg0 => ?_) (fun hg0 => ?_) <;> first | (with_reducible first | exact aF1 hg0 | exact aF2 hg0) | (simp only [hg0, hq, hjf, go_sem])) | (with_reducible refine aNk ?_; intro bnil hnil; try simp only []) | exact aZ | fail))
  all_goals first | omega | skip
  exact hLo _ (i + 1) (by omega) (by (simp only [SubF, go_sem]; (try simp only [go_sem]); repeat' (first | exact True.intro | with_reducible refine And.intro ?_ ?_ | rfl | omega))) (by omega)
 have hik : i = a.terms.length := by omega
 subst hik
 have hlf : decide ((a.terms.length : Int) < a.terms.length) = false := decide_eq_false (by omega)
 (simp only [go_sem] at hLo ⊢)
 (repeat' (first | (with_reducible first | exact True.intro | refine And.intro ?_ ?_ | refine aBl ?_ | (refine aS 11 [] ?_; intro K hK)) | ((with_reducible first | refine aGo ?_ | refine rD (id := 10) ?_ | refine rD (id := 20) ?_); simp only [hlf, go_sem]) | ((with_reducible refine aCd ?_ ?_ (fun hb => ?_) (fun hb => ?_)); (iterate 2 simp only [hlf, go_sem]); all_goals (simp only [hlf, go_sem] at hb; try simp only [bls] at hb)) | ((iterate 6 try ((fail_if_success with_reducible refine hK _ ?_ ?_ ?_); clear hK K)); with_reducible refine hK _ ?_ ?_ ?_; rotate_left; (focus (simp only [hlf, go_sem]; exact rfl)); clear hK K) | ((first | (with_reducible first | refine xA ?_ | refine xD ?_ | refine xO ?_ | refine xR ?_ | refine xG ?_ | refine xH ?_ | refine xM ?_) | ((with_reducible refine gA ?_); refine xA ?_) | ((with_reducible refine gD ?_); refine xD ?_) | ((with_reducible refine gG ?_); refine xG ?_)); simp only [hlf, go_sem]) | (with_reducible refine aGs (fun hg0 => ?_) (fun hg0 => ?_) <;> first | (with_reducible first | exact aF1 hg0 | exact aF2 hg0) | (simp only [hg0, hlf, go_sem])) | (with_reducible refine aNk ?_; intro bnil hnil; try simp only []) | exact aZ | fail))
 all_goals first | omega | skip
end Go.Proofs.YtkjnjkdcpbgabaaGreatDoor
