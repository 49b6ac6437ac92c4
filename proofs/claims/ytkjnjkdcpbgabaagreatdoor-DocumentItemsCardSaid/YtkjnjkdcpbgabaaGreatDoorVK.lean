/-
 Chapter 23: the law's fewCell, sameCell.
-/
import Derived.Test.YtkjnjkdcpbgabaaGreatDoorVF
import Derived.Test.YtkjnjkdcpbgabaaGreatDoorUR
set_option linter.unusedSimpArgs false
set_option linter.unusedVariables false
namespace Go.Proofs.YtkjnjkdcpbgabaaGreatDoor
open Go.Eng Go.RowKit
def fcN (E : List Ev) (c : CE) : Bool := decide (E.length ≤ 6 ∧ c.comps.length ≤ 6 ∧ c.reqs.length ≤ 6 ∧ c.excl.length ≤ 6 ∧ c.cons.length ≤ 6)
def fcI (e : NI) : Bool := decide (e.name.length ≤ 40 ∧ e.aut.alpha.length ≤ 6 ∧ e.aut.marked.length ≤ 6 ∧ e.aut.edges.length ≤ 12)
def fcE (e : Ev) : Bool := decide (e.name.length ≤ 40)
def fcX (e : Ex) : Bool := decide (e.name.length ≤ 40 ∧ e.locs.length ≤ 6)
def fcC (e : Cn) : Bool := decide (e.name.length ≤ 40 ∧ e.terms.length ≤ 6)
def fewC (E : List Ev) (c : CE) : Bool := fcN E c && ((c.comps ++ c.reqs).all fcI && (E.all fcE && (c.excl.all fcX && c.cons.all fcC)))
theorem evs_get {l : List Ev} {k : Nat} (_hk : k < l.length) (z : List D) (hz : z = [.str [], .bool false, .bool false, .bool false, .int .i64 0]) : (evs l).getD k z = (l.getD k Ev.no).d := by
 subst hz
 exact evs_getD l k
set_option maxHeartbeats 32000000 in
set_option maxRecDepth 100000 in
theorem fewCell_c (E : List Ev) (c : CE) : ACalls Tryz.prog 21 [.agg (cellD (evs E) c)] (.one (.bool (fewC E c))) [] := by
 have hR0 : fewC E c = (fcN E c && ((c.comps ++ c.reqs).all fcI && (E.all fcE && (c.excl.all fcX && c.cons.all fcC)))) := rfl
 generalize fewC E c = R at *
 rcases (Decidable.em (E.length ≤ 6 ∧ c.comps.length ≤ 6 ∧ c.reqs.length ≤ 6 ∧ c.excl.length ≤ 6 ∧ c.cons.length ≤ 6)).symm with hN | hN
 ·rw [fcN, decide_eq_false hN, Bool.false_and] at hR0
  subst hR0
  (refine ACalls.of_body Ty_ok mixed Tryz.func21 rfl (by kernel_rfl) Tryz.ntmps21 (by simp) (congrArg Array.toList Tryz.results21) ?_)
  simp only [slotsOf, cellD]
  (repeat' (first | (with_reducible first | exact True.intro | refine And.intro ?_ ?_ | refine aBl ?_ | ((first | refine aS1 9 [] ?_ | refine aS2 9 [] ?_ | refine aS3 9 [] ?_ | refine aS4 9 [] ?_ | refine aSq 9 [] ?_); intro K hK)) | ((with_reducible first | refine aRg ?_ | refine aEx ?_ | refine aSk ?_ | refine aRt ?_ | refine aLk ?_ | refine aOt ?_ | refine rP Ty_ok mixed 3 [1, 4] [.mid [pe 0, pe 2, ⟨3, 0, true, false, false, [], []⟩, ⟨5, 1, false, false, false, [0], []⟩, ⟨6, 1, true, false, false, [], [0]⟩, ⟨7, 2, false, false, false, [0], []⟩] 2] ?_); simp only [go_sem]) | ((with_reducible refine aCd ?_ ?_ (fun hb => ?_) (fun hb => ?_)); (simp only [go_sem]); (simp only [go_sem]); all_goals (simp only [go_sem] at hb; try simp only [bls] at hb)) | ((iterate 6 try ((fail_if_success with_reducible refine hK _ ?_ ?_ ?_); clear hK K)); with_reducible refine hK _ ?_ ?_ ?_; rotate_left; (focus (simp only [go_sem]; exact rfl)); clear hK K) | (with_reducible refine aGs (fun hg0 => ?_) (fun hg0 => ?_) <;> first | (with_reducible first | exact aF1 hg0 | exact aF2 hg0) | (simp only [hg0, go_sem])) | (with_reducible refine aNk ?_; intro bnil hnil; try simp only []) | (omega; done) | (intro hv; (try simp only [bls] at hv); (try simp only [bls]); omega) | (intro hg; (simp only [hg, Bool.true_and, true_and, implies_true]; try (intro hg2; simp only [hg2, Bool.not_false, Bool.not_true])); done)))
  all_goals first | omega | rfl | skip
 rw [fcN, decide_eq_true hN, Bool.true_and] at hR0
 have hR := hR0
 have hap : niD c.comps ++ niD c.reqs = niD (c.comps ++ c.reqs) := niD_append _ _
 have hal : (c.comps ++ c.reqs).length = c.comps.length + c.reqs.length := List.length_append
 obtain ⟨n1, n2, n3, n4, n5⟩ := hN
 have d1 : decide (6 < (E.length : Int)) = false := decide_eq_false (by omega)
 have d2 : decide (6 < (c.comps.length : Int)) = false := decide_eq_false (by omega)
 have d3 : decide (6 < (c.reqs.length : Int)) = false := decide_eq_false (by omega)
 have d4 : decide (6 < (c.excl.length : Int)) = false := decide_eq_false (by omega)
 have d5 : decide (6 < (c.cons.length : Int)) = false := decide_eq_false (by omega)
 (refine ACalls.of_body Ty_ok mixed Tryz.func21 rfl (by kernel_rfl) Tryz.ntmps21 (by simp) (congrArg Array.toList Tryz.results21) ?_)
 simp only [slotsOf, cellD]
 (repeat' (first | (with_reducible first | exact True.intro | refine And.intro ?_ ?_ | refine aBl ?_ | ((first | refine aS1 9 [] ?_ | refine aS2 9 [] ?_ | refine aS3 9 [] ?_ | refine aS4 9 [] ?_ | refine aSq 9 [] ?_); intro K hK)) | ((with_reducible first | refine aRg ?_ | refine aEx ?_ | refine aSk ?_ | refine aRt ?_ | refine aLk ?_ | refine aOt ?_ | refine rP Ty_ok mixed 3 [1, 4] [.mid [pe 0, pe 2, ⟨3, 0, true, false, false, [], []⟩, ⟨5, 1, false, false, false, [0], []⟩, ⟨6, 1, true, false, false, [], [0]⟩, ⟨7, 2, false, false, false, [0], []⟩] 2] ?_); simp only [d1, d2, d3, d4, d5, hap, go_sem]) | ((with_reducible refine aCd ?_ ?_ (fun hb => ?_) (fun hb => ?_)); (simp only [d1, d2, d3, d4, d5, hap, go_sem]); (simp only [d1, d2, d3, d4, d5, hap, go_sem]); all_goals (simp only [d1, d2, d3, d4, d5, hap, go_sem] at hb; try simp only [bls] at hb)) | ((iterate 6 try ((fail_if_success with_reducible refine hK _ ?_ ?_ ?_); clear hK K)); with_reducible refine hK _ ?_ ?_ ?_; rotate_left; (focus (simp only [d1, d2, d3, d4, d5, hap, go_sem]; exact rfl)); clear hK K) | (with_reducible refine aGs (fun hg0 => ?_) (fun hg0 => ?_) <;> first | (with_reducible first | exact aF1 hg0 | exact aF2 hg0) | (simp only [hg0, d1, d2, d3, d4, d5, hap, go_sem])) | (with_reducible refine aNk ?_; intro bnil hnil; try simp only []) | (omega; done) | (intro hv; (try simp only [bls] at hv); (try simp only [bls]); omega) | (intro hg; (simp only [hg, Bool.true_and, true_and, implies_true]; try (intro hg2; simp only [hg2, Bool.not_false, Bool.not_true])); done)))
 all_goals first | omega | skip
 generalize hAd : c.comps ++ c.reqs = A at *
 refine awp_loop _ (by simp only [go_sem]; rfl) Nat (fun k => k ≤ A.length ∧ R = ((A.drop k).all fcI && (E.all fcE && (c.excl.all fcX && c.cons.all fcC)))) (fun k => [(4, .one (.int .i64 k))]) (fun _ H => H) (fun k => A.length - k) 0 ⟨by omega, by rw [List.drop_zero]; exact hR⟩ ?_ ?_
 ·(simp only [SubF, go_sem]; (try simp only [go_sem]); repeat' (first | exact True.intro | with_reducible refine And.intro ?_ ?_ | rfl | omega))
 rintro k ⟨hk, hres⟩ L hL
 have hq : ((k : Nat) : Int).toNat = k := by omega
 rcases (Decidable.em (k < A.length)) with hlt | hlt
 ·have hlf : decide ((k : Int) < A.length) = true := decide_eq_true (by omega)
  have hg := niD_get hlt []
  rw [all_step (d := NI.no) hlt, Bool.and_assoc] at hres
  generalize A.getD k NI.no = e at *
  simp only [NI.d] at hg
  (simp only [go_sem] at hL ⊢)
  rcases (Decidable.em (e.name.length ≤ 40)).symm with q0 | q0
  ·have w0 : decide (40 < (e.name.length : Int)) = true := decide_eq_true (by omega)
   rw [show fcI e = false from decide_eq_false (by omega), Bool.false_and] at hres
   subst hres
   (repeat' (first | (with_reducible first | exact True.intro | refine And.intro ?_ ?_ | refine aBl ?_ | ((first | refine aS1 9 [] ?_ | refine aS2 9 [] ?_ | refine aS3 9 [] ?_ | refine aS4 9 [] ?_ | refine aSq 9 [] ?_); intro K hK)) | ((with_reducible first | refine aRg ?_ | refine aEx ?_ | refine aSk ?_ | refine aRt ?_ | refine aLk ?_ | refine aOt ?_ | refine rP Ty_ok mixed 3 [1, 4] [.mid [pe 0, pe 2, ⟨3, 0, true, false, false, [], []⟩, ⟨5, 1, false, false, false, [0], []⟩, ⟨6, 1, true, false, false, [], [0]⟩, ⟨7, 2, false, false, false, [0], []⟩] 2] ?_); simp only [hg, hq, hlf, hap, w0, go_sem]) | ((with_reducible refine aCd ?_ ?_ (fun hb => ?_) (fun hb => ?_)); (simp only [hg, hq, hlf, hap, w0, go_sem]); (simp only [hg, hq, hlf, hap, w0, go_sem]); all_goals (simp only [hg, hq, hlf, hap, w0, go_sem] at hb; try simp only [bls] at hb)) | ((iterate 6 try ((fail_if_success with_reducible refine hK _ ?_ ?_ ?_); clear hK K)); with_reducible refine hK _ ?_ ?_ ?_; rotate_left; (focus (simp only [hg, hq, hlf, hap, w0, go_sem]; exact rfl)); clear hK K) | (with_reducible refine aGs (fun hg0 => ?_) (fun hg0 => ?_) <;> first | (with_reducible first | exact aF1 hg0 | exact aF2 hg0) | (simp only [hg0, hg, hq, hlf, hap, w0, go_sem])) | (with_reducible refine aNk ?_; intro bnil hnil; try simp only []) | (omega; done) | (intro hv; (try simp only [bls] at hv); (try simp only [bls]); omega) | (intro hg; (simp only [hg, Bool.true_and, true_and, implies_true]; try (intro hg2; simp only [hg2, Bool.not_false, Bool.not_true])); done)))
   all_goals first | omega | rfl | skip
  have w0 : decide (40 < (e.name.length : Int)) = false := decide_eq_false (by omega)
  rcases (Decidable.em (e.aut.alpha.length ≤ 6)).symm with q1 | q1
  ·have w1 : decide (6 < (e.aut.alpha.length : Int)) = true := decide_eq_true (by omega)
   rw [show fcI e = false from decide_eq_false (by omega), Bool.false_and] at hres
   subst hres
   (repeat' (first | (with_reducible first | exact True.intro | refine And.intro ?_ ?_ | refine aBl ?_ | ((first | refine aS1 9 [] ?_ | refine aS2 9 [] ?_ | refine aS3 9 [] ?_ | refine aS4 9 [] ?_ | refine aSq 9 [] ?_); intro K hK)) | ((with_reducible first | refine aRg ?_ | refine aEx ?_ | refine aSk ?_ | refine aRt ?_ | refine aLk ?_ | refine aOt ?_ | refine rP Ty_ok mixed 3 [1, 4] [.mid [pe 0, pe 2, ⟨3, 0, true, false, false, [], []⟩, ⟨5, 1, false, false, false, [0], []⟩, ⟨6, 1, true, false, false, [], [0]⟩, ⟨7, 2, false, false, false, [0], []⟩] 2] ?_); simp only [hg, hq, hlf, hap, w0, w1, go_sem]) | ((with_reducible refine aCd ?_ ?_ (fun hb => ?_) (fun hb => ?_)); (simp only [hg, hq, hlf, hap, w0, w1, go_sem]); (simp only [hg, hq, hlf, hap, w0, w1, go_sem]); all_goals (simp only [hg, hq, hlf, hap, w0, w1, go_sem] at hb; try simp only [bls] at hb)) | ((iterate 6 try ((fail_if_success with_reducible refine hK _ ?_ ?_ ?_); clear hK K)); with_reducible refine hK _ ?_ ?_ ?_; rotate_left; (focus (simp only [hg, hq, hlf, hap, w0, w1, go_sem]; exact rfl)); clear hK K) | (with_reducible refine aGs (fun hg0 => ?_) (fun hg0 => ?_) <;> first | (with_reducible first | exact aF1 hg0 | exact aF2 hg0) | (simp only [hg0, hg, hq, hlf, hap, w0, w1, go_sem])) | (with_reducible refine aNk ?_; intro bnil hnil; try simp only []) | (omega; done) | (intro hv; (try simp only [bls] at hv); (try simp only [bls]); omega) | (intro hg; (simp only [hg, Bool.true_and, true_and, implies_true]; try (intro hg2; simp only [hg2, Bool.not_false, Bool.not_true])); done)))
   all_goals first | omega | rfl | skip
  have w1 : decide (6 < (e.aut.alpha.length : Int)) = false := decide_eq_false (by omega)
  rcases (Decidable.em (e.aut.marked.length ≤ 6)).symm with q2 | q2
  ·have w2 : decide (6 < (e.aut.marked.length : Int)) = true := decide_eq_true (by omega)
   rw [show fcI e = false from decide_eq_false (by omega), Bool.false_and] at hres
   subst hres
   (repeat' (first | (with_reducible first | exact True.intro | refine And.intro ?_ ?_ | refine aBl ?_ | ((first | refine aS1 9 [] ?_ | refine aS2 9 [] ?_ | refine aS3 9 [] ?_ | refine aS4 9 [] ?_ | refine aSq 9 [] ?_); intro K hK)) | ((with_reducible first | refine aRg ?_ | refine aEx ?_ | refine aSk ?_ | refine aRt ?_ | refine aLk ?_ | refine aOt ?_ | refine rP Ty_ok mixed 3 [1, 4] [.mid [pe 0, pe 2, ⟨3, 0, true, false, false, [], []⟩, ⟨5, 1, false, false, false, [0], []⟩, ⟨6, 1, true, false, false, [], [0]⟩, ⟨7, 2, false, false, false, [0], []⟩] 2] ?_); simp only [hg, hq, hlf, hap, w0, w1, w2, go_sem]) | ((with_reducible refine aCd ?_ ?_ (fun hb => ?_) (fun hb => ?_)); (simp only [hg, hq, hlf, hap, w0, w1, w2, go_sem]); (simp only [hg, hq, hlf, hap, w0, w1, w2, go_sem]); all_goals (simp only [hg, hq, hlf, hap, w0, w1, w2, go_sem] at hb; try simp only [bls] at hb)) | ((iterate 6 try ((fail_if_success with_reducible refine hK _ ?_ ?_ ?_); clear hK K)); with_reducible refine hK _ ?_ ?_ ?_; rotate_left; (focus (simp only [hg, hq, hlf, hap, w0, w1, w2, go_sem]; exact rfl)); clear hK K) | (with_reducible refine aGs (fun hg0 => ?_) (fun hg0 => ?_) <;> first | (with_reducible first | exact aF1 hg0 | exact aF2 hg0) | (simp only [hg0, hg, hq, hlf, hap, w0, w1, w2, go_sem])) | (with_reducible refine aNk ?_; intro bnil hnil; try simp only []) | (omega; done) | (intro hv; (try simp only [bls] at hv); (try simp only [bls]); omega) | (intro hg; (simp only [hg, Bool.true_and, true_and, implies_true]; try (intro hg2; simp only [hg2, Bool.not_false, Bool.not_true])); done)))
   all_goals first | omega | rfl | skip
  have w2 : decide (6 < (e.aut.marked.length : Int)) = false := decide_eq_false (by omega)
  rcases (Decidable.em (e.aut.edges.length ≤ 12)).symm with q3 | q3
  ·have w3 : decide (12 < (e.aut.edges.length : Int)) = true := decide_eq_true (by omega)
   rw [show fcI e = false from decide_eq_false (by omega), Bool.false_and] at hres
   subst hres
   (repeat' (first | (with_reducible first | exact True.intro | refine And.intro ?_ ?_ | refine aBl ?_ | ((first | refine aS1 9 [] ?_ | refine aS2 9 [] ?_ | refine aS3 9 [] ?_ | refine aS4 9 [] ?_ | refine aSq 9 [] ?_); intro K hK)) | ((with_reducible first | refine aRg ?_ | refine aEx ?_ | refine aSk ?_ | refine aRt ?_ | refine aLk ?_ | refine aOt ?_ | refine rP Ty_ok mixed 3 [1, 4] [.mid [pe 0, pe 2, ⟨3, 0, true, false, false, [], []⟩, ⟨5, 1, false, false, false, [0], []⟩, ⟨6, 1, true, false, false, [], [0]⟩, ⟨7, 2, false, false, false, [0], []⟩] 2] ?_); simp only [hg, hq, hlf, hap, w0, w1, w2, w3, go_sem]) | ((with_reducible refine aCd ?_ ?_ (fun hb => ?_) (fun hb => ?_)); (simp only [hg, hq, hlf, hap, w0, w1, w2, w3, go_sem]); (simp only [hg, hq, hlf, hap, w0, w1, w2, w3, go_sem]); all_goals (simp only [hg, hq, hlf, hap, w0, w1, w2, w3, go_sem] at hb; try simp only [bls] at hb)) | ((iterate 6 try ((fail_if_success with_reducible refine hK _ ?_ ?_ ?_); clear hK K)); with_reducible refine hK _ ?_ ?_ ?_; rotate_left; (focus (simp only [hg, hq, hlf, hap, w0, w1, w2, w3, go_sem]; exact rfl)); clear hK K) | (with_reducible refine aGs (fun hg0 => ?_) (fun hg0 => ?_) <;> first | (with_reducible first | exact aF1 hg0 | exact aF2 hg0) | (simp only [hg0, hg, hq, hlf, hap, w0, w1, w2, w3, go_sem])) | (with_reducible refine aNk ?_; intro bnil hnil; try simp only []) | (omega; done) | (intro hv; (try simp only [bls] at hv); (try simp only [bls]); omega) | (intro hg; (simp only [hg, Bool.true_and, true_and, implies_true]; try (intro hg2; simp only [hg2, Bool.not_false, Bool.not_true])); done)))
   all_goals first | omega | rfl | skip
  have w3 : decide (12 < (e.aut.edges.length : Int)) = false := decide_eq_false (by omega)
  rw [show fcI e = true from decide_eq_true (by omega), Bool.true_and] at hres
  (repeat' (first | (with_reducible first | exact True.intro | refine And.intro ?_ ?_ | refine aBl ?_ | ((first | refine aS1 9 [] ?_ | refine aS2 9 [] ?_ | refine aS3 9 [] ?_ | refine aS4 9 [] ?_ | refine aSq 9 [] ?_); intro K hK)) | ((with_reducible first | refine aRg ?_ | refine aEx ?_ | refine aSk ?_ | refine aRt ?_ | refine aLk ?_ | refine aOt ?_ | refine rP Ty_ok mixed 3 [1, 4] [.mid [pe 0, pe 2, ⟨3, 0, true, false, false, [], []⟩, ⟨5, 1, false, false, false, [0], []⟩, ⟨6, 1, true, false, false, [], [0]⟩, ⟨7, 2, false, false, false, [0], []⟩] 2] ?_); simp only [hg, hq, hlf, hap, w0, w1, w2, w3, go_sem]) | ((with_reducible refine aCd ?_ ?_ (fun hb => ?_) (fun hb => ?_)); (simp only [hg, hq, hlf, hap, w0, w1, w2, w3, go_sem]); (simp only [hg, hq, hlf, hap, w0, w1, w2, w3, go_sem]); all_goals (simp only [hg, hq, hlf, hap, w0, w1, w2, w3, go_sem] at hb; try simp only [bls] at hb)) | ((iterate 6 try ((fail_if_success with_reducible refine hK _ ?_ ?_ ?_); clear hK K)); with_reducible refine hK _ ?_ ?_ ?_; rotate_left; (focus (simp only [hg, hq, hlf, hap, w0, w1, w2, w3, go_sem]; exact rfl)); clear hK K) | (with_reducible refine aGs (fun hg0 => ?_) (fun hg0 => ?_) <;> first | (with_reducible first | exact aF1 hg0 | exact aF2 hg0) | (simp only [hg0, hg, hq, hlf, hap, w0, w1, w2, w3, go_sem])) | (with_reducible refine aNk ?_; intro bnil hnil; try simp only []) | (omega; done) | (intro hv; (try simp only [bls] at hv); (try simp only [bls]); omega) | (intro hg; (simp only [hg, Bool.true_and, true_and, implies_true]; try (intro hg2; simp only [hg2, Bool.not_false, Bool.not_true])); done)))
  all_goals first | omega | skip
  exact hL _ (k + 1) ⟨by omega, hres⟩ (by (simp only [SubF, go_sem]; (try simp only [go_sem]); repeat' (first | exact True.intro | with_reducible refine And.intro ?_ ?_ | rfl | omega))) (by omega)
 have hkl : k = A.length := by omega
 subst hkl
 have hlf : decide ((A.length : Int) < A.length) = false := decide_eq_false (by omega)
 rw [List.drop_length, List.all_nil, Bool.true_and] at hres
 (simp only [go_sem] at hL ⊢)
 (repeat' (first | (with_reducible first | exact True.intro | refine And.intro ?_ ?_ | refine aBl ?_ | ((first | refine aS1 9 [] ?_ | refine aS2 9 [] ?_ | refine aS3 9 [] ?_ | refine aS4 9 [] ?_ | refine aSq 9 [] ?_); intro K hK)) | ((with_reducible first | refine aRg ?_ | refine aEx ?_ | refine aSk ?_ | refine aRt ?_ | refine aLk ?_ | refine aOt ?_ | refine rP Ty_ok mixed 3 [1, 4] [.mid [pe 0, pe 2, ⟨3, 0, true, false, false, [], []⟩, ⟨5, 1, false, false, false, [0], []⟩, ⟨6, 1, true, false, false, [], [0]⟩, ⟨7, 2, false, false, false, [0], []⟩] 2] ?_); simp only [hlf, hap, go_sem]) | ((with_reducible refine aCd ?_ ?_ (fun hb => ?_) (fun hb => ?_)); (simp only [hlf, hap, go_sem]); (simp only [hlf, hap, go_sem]); all_goals (simp only [hlf, hap, go_sem] at hb; try simp only [bls] at hb)) | ((iterate 6 try ((fail_if_success with_reducible refine hK _ ?_ ?_ ?_); clear hK K)); with_reducible refine hK _ ?_ ?_ ?_; rotate_left; (focus (simp only [hlf, hap, go_sem]; exact rfl)); clear hK K) | (with_reducible refine aGs (fun hg0 => ?_) (fun hg0 => ?_) <;> first | (with_reducible first | exact aF1 hg0 | exact aF2 hg0) | (simp only [hg0, hlf, hap, go_sem])) | (with_reducible refine aNk ?_; intro bnil hnil; try simp only []) | (omega; done) | (intro hv; (try simp only [bls] at hv); (try simp only [bls]); omega) | (intro hg; (simp only [hg, Bool.true_and, true_and, implies_true]; try (intro hg2; simp only [hg2, Bool.not_false, Bool.not_true])); done)))
 all_goals first | omega | skip
 have hR := hres
 clear hL
 refine awp_loop _ (by simp only [go_sem]; rfl) Nat (fun k => k ≤ E.length ∧ R = ((E.drop k).all fcE && (c.excl.all fcX && c.cons.all fcC))) (fun k => [(6, .one (.int .i64 k))]) (fun _ H => H) (fun k => E.length - k) 0 ⟨by omega, by rw [List.drop_zero]; exact hR⟩ ?_ ?_
 ·(simp only [SubF, go_sem]; (try simp only [go_sem]); repeat' (first | exact True.intro | with_reducible refine And.intro ?_ ?_ | rfl | omega))
 rintro k ⟨hk, hres⟩ L hL
 have hq : ((k : Nat) : Int).toNat = k := by omega
 rcases (Decidable.em (k < E.length)) with hlt | hlt
 ·have hlf : decide ((k : Int) < E.length) = true := decide_eq_true (by omega)
  have hg := evs_get hlt [.str [], .bool false, .bool false, .bool false, .int .i64 0] rfl
  rw [all_step (d := Ev.no) hlt, Bool.and_assoc] at hres
  generalize E.getD k Ev.no = e at *
  simp only [Ev.d] at hg
  (simp only [go_sem] at hL ⊢)
  rcases (Decidable.em (e.name.length ≤ 40)).symm with q0 | q0
  ·have w0 : decide (40 < (e.name.length : Int)) = true := decide_eq_true (by omega)
   rw [show fcE e = false from decide_eq_false (by omega), Bool.false_and] at hres
   subst hres
   (repeat' (first | (with_reducible first | exact True.intro | refine And.intro ?_ ?_ | refine aBl ?_ | ((first | refine aS1 9 [] ?_ | refine aS2 9 [] ?_ | refine aS3 9 [] ?_ | refine aS4 9 [] ?_ | refine aSq 9 [] ?_); intro K hK)) | ((with_reducible first | refine aRg ?_ | refine aEx ?_ | refine aSk ?_ | refine aRt ?_ | refine aLk ?_ | refine aOt ?_ | refine rP Ty_ok mixed 3 [1, 4] [.mid [pe 0, pe 2, ⟨3, 0, true, false, false, [], []⟩, ⟨5, 1, false, false, false, [0], []⟩, ⟨6, 1, true, false, false, [], [0]⟩, ⟨7, 2, false, false, false, [0], []⟩] 2] ?_); simp only [hg, hq, hlf, w0, go_sem]) | ((with_reducible refine aCd ?_ ?_ (fun hb => ?_) (fun hb => ?_)); (simp only [hg, hq, hlf, w0, go_sem]); (simp only [hg, hq, hlf, w0, go_sem]); all_goals (simp only [hg, hq, hlf, w0, go_sem] at hb; try simp only [bls] at hb)) | ((iterate 6 try ((fail_if_success with_reducible refine hK _ ?_ ?_ ?_); clear hK K)); with_reducible refine hK _ ?_ ?_ ?_; rotate_left; (focus (simp only [hg, hq, hlf, w0, go_sem]; exact rfl)); clear hK K) | (with_reducible refine aGs (fun hg0 => ?_) (fun hg0 => ?_) <;> first | (with_reducible first | exact aF1 hg0 | exact aF2 hg0) | (simp only [hg0, hg, hq, hlf, w0, go_sem])) | (with_reducible refine aNk ?_; intro bnil hnil; try simp only []) | (omega; done) | (intro hv; (try simp only [bls] at hv); (try simp only [bls]); omega) | (intro hg; (simp only [hg, Bool.true_and, true_and, implies_true]; try (intro hg2; simp only [hg2, Bool.not_false, Bool.not_true])); done)))
   all_goals first | omega | rfl | skip
  have w0 : decide (40 < (e.name.length : Int)) = false := decide_eq_false (by omega)
  rw [show fcE e = true from decide_eq_true (by omega), Bool.true_and] at hres
  (repeat' (first | (with_reducible first | exact True.intro | refine And.intro ?_ ?_ | refine aBl ?_ | ((first | refine aS1 9 [] ?_ | refine aS2 9 [] ?_ | refine aS3 9 [] ?_ | refine aS4 9 [] ?_ | refine aSq 9 [] ?_); intro K hK)) | ((with_reducible first | refine aRg ?_ | refine aEx ?_ | refine aSk ?_ | refine aRt ?_ | refine aLk ?_ | refine aOt ?_ | refine rP Ty_ok mixed 3 [1, 4] [.mid [pe 0, pe 2, ⟨3, 0, true, false, false, [], []⟩, ⟨5, 1, false, false, false, [0], []⟩, ⟨6, 1, true, false, false, [], [0]⟩, ⟨7, 2, false, false, false, [0], []⟩] 2] ?_); simp only [hg, hq, hlf, w0, go_sem]) | ((with_reducible refine aCd ?_ ?_ (fun hb => ?_) (fun hb => ?_)); (simp only [hg, hq, hlf, w0, go_sem]); (simp only [hg, hq, hlf, w0, go_sem]); all_goals (simp only [hg, hq, hlf, w0, go_sem] at hb; try simp only [bls] at hb)) | ((iterate 6 try ((fail_if_success with_reducible refine hK _ ?_ ?_ ?_); clear hK K)); with_reducible refine hK _ ?_ ?_ ?_; rotate_left; (focus (simp only [hg, hq, hlf, w0, go_sem]; exact rfl)); clear hK K) | (with_reducible refine aGs (fun hg0 => ?_) (fun hg0 => ?_) <;> first | (with_reducible first | exact aF1 hg0 | exact aF2 hg0) | (simp only [hg0, hg, hq, hlf, w0, go_sem])) | (with_reducible refine aNk ?_; intro bnil hnil; try simp only []) | (omega; done) | (intro hv; (try simp only [bls] at hv); (try simp only [bls]); omega) | (intro hg; (simp only [hg, Bool.true_and, true_and, implies_true]; try (intro hg2; simp only [hg2, Bool.not_false, Bool.not_true])); done)))
  all_goals first | omega | skip
  exact hL _ (k + 1) ⟨by omega, hres⟩ (by (simp only [SubF, go_sem]; (try simp only [go_sem]); repeat' (first | exact True.intro | with_reducible refine And.intro ?_ ?_ | rfl | omega))) (by omega)
 have hkl : k = E.length := by omega
 subst hkl
 have hlf : decide ((E.length : Int) < E.length) = false := decide_eq_false (by omega)
 rw [List.drop_length, List.all_nil, Bool.true_and] at hres
 (simp only [go_sem] at hL ⊢)
 (repeat' (first | (with_reducible first | exact True.intro | refine And.intro ?_ ?_ | refine aBl ?_ | ((first | refine aS1 9 [] ?_ | refine aS2 9 [] ?_ | refine aS3 9 [] ?_ | refine aS4 9 [] ?_ | refine aSq 9 [] ?_); intro K hK)) | ((with_reducible first | refine aRg ?_ | refine aEx ?_ | refine aSk ?_ | refine aRt ?_ | refine aLk ?_ | refine aOt ?_ | refine rP Ty_ok mixed 3 [1, 4] [.mid [pe 0, pe 2, ⟨3, 0, true, false, false, [], []⟩, ⟨5, 1, false, false, false, [0], []⟩, ⟨6, 1, true, false, false, [], [0]⟩, ⟨7, 2, false, false, false, [0], []⟩] 2] ?_); simp only [hlf, go_sem]) | ((with_reducible refine aCd ?_ ?_ (fun hb => ?_) (fun hb => ?_)); (simp only [hlf, go_sem]); (simp only [hlf, go_sem]); all_goals (simp only [hlf, go_sem] at hb; try simp only [bls] at hb)) | ((iterate 6 try ((fail_if_success with_reducible refine hK _ ?_ ?_ ?_); clear hK K)); with_reducible refine hK _ ?_ ?_ ?_; rotate_left; (focus (simp only [hlf, go_sem]; exact rfl)); clear hK K) | (with_reducible refine aGs (fun hg0 => ?_) (fun hg0 => ?_) <;> first | (with_reducible first | exact aF1 hg0 | exact aF2 hg0) | (simp only [hg0, hlf, go_sem])) | (with_reducible refine aNk ?_; intro bnil hnil; try simp only []) | (omega; done) | (intro hv; (try simp only [bls] at hv); (try simp only [bls]); omega) | (intro hg; (simp only [hg, Bool.true_and, true_and, implies_true]; try (intro hg2; simp only [hg2, Bool.not_false, Bool.not_true])); done)))
 all_goals first | omega | skip
 have hR := hres
 clear hL
 refine awp_loop _ (by simp only [go_sem]; rfl) Nat (fun k => k ≤ c.excl.length ∧ R = ((c.excl.drop k).all fcX && c.cons.all fcC)) (fun k => [(7, .one (.int .i64 k))]) (fun _ H => H) (fun k => c.excl.length - k) 0 ⟨by omega, by rw [List.drop_zero]; exact hR⟩ ?_ ?_
 ·(simp only [SubF, go_sem]; (try simp only [go_sem]); repeat' (first | exact True.intro | with_reducible refine And.intro ?_ ?_ | rfl | omega))
 rintro k ⟨hk, hres⟩ L hL
 have hq : ((k : Nat) : Int).toNat = k := by omega
 rcases (Decidable.em (k < c.excl.length)) with hlt | hlt
 ·have hlf : decide ((k : Int) < c.excl.length) = true := decide_eq_true (by omega)
  have hg := exD_get hlt [.str [], .nil]
  rw [all_step (d := Ex.no) hlt, Bool.and_assoc] at hres
  generalize c.excl.getD k Ex.no = e at *
  simp only [Ex.d] at hg
  (simp only [go_sem] at hL ⊢)
  rcases (Decidable.em (e.name.length ≤ 40)).symm with q0 | q0
  ·have w0 : decide (40 < (e.name.length : Int)) = true := decide_eq_true (by omega)
   rw [show fcX e = false from decide_eq_false (by omega), Bool.false_and] at hres
   subst hres
   (repeat' (first | (with_reducible first | exact True.intro | refine And.intro ?_ ?_ | refine aBl ?_ | ((first | refine aS1 9 [] ?_ | refine aS2 9 [] ?_ | refine aS3 9 [] ?_ | refine aS4 9 [] ?_ | refine aSq 9 [] ?_); intro K hK)) | ((with_reducible first | refine aRg ?_ | refine aEx ?_ | refine aSk ?_ | refine aRt ?_ | refine aLk ?_ | refine aOt ?_ | refine rP Ty_ok mixed 3 [1, 4] [.mid [pe 0, pe 2, ⟨3, 0, true, false, false, [], []⟩, ⟨5, 1, false, false, false, [0], []⟩, ⟨6, 1, true, false, false, [], [0]⟩, ⟨7, 2, false, false, false, [0], []⟩] 2] ?_); simp only [hg, hq, hlf, w0, go_sem]) | ((with_reducible refine aCd ?_ ?_ (fun hb => ?_) (fun hb => ?_)); (simp only [hg, hq, hlf, w0, go_sem]); (simp only [hg, hq, hlf, w0, go_sem]); all_goals (simp only [hg, hq, hlf, w0, go_sem] at hb; try simp only [bls] at hb)) | ((iterate 6 try ((fail_if_success with_reducible refine hK _ ?_ ?_ ?_); clear hK K)); with_reducible refine hK _ ?_ ?_ ?_; rotate_left; (focus (simp only [hg, hq, hlf, w0, go_sem]; exact rfl)); clear hK K) | (with_reducible refine aGs (fun hg0 => ?_) (fun hg0 => ?_) <;> first | (with_reducible first | exact aF1 hg0 | exact aF2 hg0) | (simp only [hg0, hg, hq, hlf, w0, go_sem])) | (with_reducible refine aNk ?_; intro bnil hnil; try simp only []) | (omega; done) | (intro hv; (try simp only [bls] at hv); (try simp only [bls]); omega) | (intro hg; (simp only [hg, Bool.true_and, true_and, implies_true]; try (intro hg2; simp only [hg2, Bool.not_false, Bool.not_true])); done)))
   all_goals first | omega | rfl | skip
  have w0 : decide (40 < (e.name.length : Int)) = false := decide_eq_false (by omega)
  rcases (Decidable.em (e.locs.length ≤ 6)).symm with q1 | q1
  ·have w1 : decide (6 < (e.locs.length : Int)) = true := decide_eq_true (by omega)
   rw [show fcX e = false from decide_eq_false (by omega), Bool.false_and] at hres
   subst hres
   (repeat' (first | (with_reducible first | exact True.intro | refine And.intro ?_ ?_ | refine aBl ?_ | ((first | refine aS1 9 [] ?_ | refine aS2 9 [] ?_ | refine aS3 9 [] ?_ | refine aS4 9 [] ?_ | refine aSq 9 [] ?_); intro K hK)) | ((with_reducible first | refine aRg ?_ | refine aEx ?_ | refine aSk ?_ | refine aRt ?_ | refine aLk ?_ | refine aOt ?_ | refine rP Ty_ok mixed 3 [1, 4] [.mid [pe 0, pe 2, ⟨3, 0, true, false, false, [], []⟩, ⟨5, 1, false, false, false, [0], []⟩, ⟨6, 1, true, false, false, [], [0]⟩, ⟨7, 2, false, false, false, [0], []⟩] 2] ?_); simp only [hg, hq, hlf, w0, w1, go_sem]) | ((with_reducible refine aCd ?_ ?_ (fun hb => ?_) (fun hb => ?_)); (simp only [hg, hq, hlf, w0, w1, go_sem]); (simp only [hg, hq, hlf, w0, w1, go_sem]); all_goals (simp only [hg, hq, hlf, w0, w1, go_sem] at hb; try simp only [bls] at hb)) | ((iterate 6 try ((fail_if_success with_reducible refine hK _ ?_ ?_ ?_); clear hK K)); with_reducible refine hK _ ?_ ?_ ?_; rotate_left; (focus (simp only [hg, hq, hlf, w0, w1, go_sem]; exact rfl)); clear hK K) | (with_reducible refine aGs (fun hg0 => ?_) (fun hg0 => ?_) <;> first | (with_reducible first | exact aF1 hg0 | exact aF2 hg0) | (simp only [hg0, hg, hq, hlf, w0, w1, go_sem])) | (with_reducible refine aNk ?_; intro bnil hnil; try simp only []) | (omega; done) | (intro hv; (try simp only [bls] at hv); (try simp only [bls]); omega) | (intro hg; (simp only [hg, Bool.true_and, true_and, implies_true]; try (intro hg2; simp only [hg2, Bool.not_false, Bool.not_true])); done)))
   all_goals first | omega | rfl | skip
  have w1 : decide (6 < (e.locs.length : Int)) = false := decide_eq_false (by omega)
  rw [show fcX e = true from decide_eq_true (by omega), Bool.true_and] at hres
  (repeat' (first | (with_reducible first | exact True.intro | refine And.intro ?_ ?_ | refine aBl ?_ | ((first | refine aS1 9 [] ?_ | refine aS2 9 [] ?_ | refine aS3 9 [] ?_ | refine aS4 9 [] ?_ | refine aSq 9 [] ?_); intro K hK)) | ((with_reducible first | refine aRg ?_ | refine aEx ?_ | refine aSk ?_ | refine aRt ?_ | refine aLk ?_ | refine aOt ?_ | refine rP Ty_ok mixed 3 [1, 4] [.mid [pe 0, pe 2, ⟨3, 0, true, false, false, [], []⟩, ⟨5, 1, false, false, false, [0], []⟩, ⟨6, 1, true, false, false, [], [0]⟩, ⟨7, 2, false, false, false, [0], []⟩] 2] ?_); simp only [hg, hq, hlf, w0, w1, go_sem]) | ((with_reducible refine aCd ?_ ?_ (fun hb => ?_) (fun hb => ?_)); (simp only [hg, hq, hlf, w0, w1, go_sem]); (simp only [hg, hq, hlf, w0, w1, go_sem]); all_goals (simp only [hg, hq, hlf, w0, w1, go_sem] at hb; try simp only [bls] at hb)) | ((iterate 6 try ((fail_if_success with_reducible refine hK _ ?_ ?_ ?_); clear hK K)); with_reducible refine hK _ ?_ ?_ ?_; rotate_left; (focus (simp only [hg, hq, hlf, w0, w1, go_sem]; exact rfl)); clear hK K) | (with_reducible refine aGs (fun hg0 => ?_) (fun hg0 => ?_) <;> first | (with_reducible first | exact aF1 hg0 | exact aF2 hg0) | (simp only [hg0, hg, hq, hlf, w0, w1, go_sem])) | (with_reducible refine aNk ?_; intro bnil hnil; try simp only []) | (omega; done) | (intro hv; (try simp only [bls] at hv); (try simp only [bls]); omega) | (intro hg; (simp only [hg, Bool.true_and, true_and, implies_true]; try (intro hg2; simp only [hg2, Bool.not_false, Bool.not_true])); done)))
  all_goals first | omega | skip
  exact hL _ (k + 1) ⟨by omega, hres⟩ (by (simp only [SubF, go_sem]; (try simp only [go_sem]); repeat' (first | exact True.intro | with_reducible refine And.intro ?_ ?_ | rfl | omega))) (by omega)
 have hkl : k = c.excl.length := by omega
 subst hkl
 have hlf : decide ((c.excl.length : Int) < c.excl.length) = false := decide_eq_false (by omega)
 rw [List.drop_length, List.all_nil, Bool.true_and] at hres
 (simp only [go_sem] at hL ⊢)
 (repeat' (first | (with_reducible first | exact True.intro | refine And.intro ?_ ?_ | refine aBl ?_ | ((first | refine aS1 9 [] ?_ | refine aS2 9 [] ?_ | refine aS3 9 [] ?_ | refine aS4 9 [] ?_ | refine aSq 9 [] ?_); intro K hK)) | ((with_reducible first | refine aRg ?_ | refine aEx ?_ | refine aSk ?_ | refine aRt ?_ | refine aLk ?_ | refine aOt ?_ | refine rP Ty_ok mixed 3 [1, 4] [.mid [pe 0, pe 2, ⟨3, 0, true, false, false, [], []⟩, ⟨5, 1, false, false, false, [0], []⟩, ⟨6, 1, true, false, false, [], [0]⟩, ⟨7, 2, false, false, false, [0], []⟩] 2] ?_); simp only [hlf, go_sem]) | ((with_reducible refine aCd ?_ ?_ (fun hb => ?_) (fun hb => ?_)); (simp only [hlf, go_sem]); (simp only [hlf, go_sem]); all_goals (simp only [hlf, go_sem] at hb; try simp only [bls] at hb)) | ((iterate 6 try ((fail_if_success with_reducible refine hK _ ?_ ?_ ?_); clear hK K)); with_reducible refine hK _ ?_ ?_ ?_; rotate_left; (focus (simp only [hlf, go_sem]; exact rfl)); clear hK K) | (with_reducible refine aGs (fun hg0 => ?_) (fun hg0 => ?_) <;> first | (with_reducible first | exact aF1 hg0 | exact aF2 hg0) | (simp only [hg0, hlf, go_sem])) | (with_reducible refine aNk ?_; intro bnil hnil; try simp only []) | (omega; done) | (intro hv; (try simp only [bls] at hv); (try simp only [bls]); omega) | (intro hg; (simp only [hg, Bool.true_and, true_and, implies_true]; try (intro hg2; simp only [hg2, Bool.not_false, Bool.not_true])); done)))
 all_goals first | omega | skip
 have hR := hres
 clear hL
 refine awp_loop _ (by simp only [go_sem]; rfl) Nat (fun k => k ≤ c.cons.length ∧ R = ((c.cons.drop k).all fcC)) (fun k => [(8, .one (.int .i64 k))]) (fun _ H => H) (fun k => c.cons.length - k) 0 ⟨by omega, by rw [List.drop_zero]; exact hR⟩ ?_ ?_
 ·(simp only [SubF, go_sem]; (try simp only [go_sem]); repeat' (first | exact True.intro | with_reducible refine And.intro ?_ ?_ | rfl | omega))
 rintro k ⟨hk, hres⟩ L hL
 have hq : ((k : Nat) : Int).toNat = k := by omega
 rcases (Decidable.em (k < c.cons.length)) with hlt | hlt
 ·have hlf : decide ((k : Int) < c.cons.length) = true := decide_eq_true (by omega)
  have hg := cnD_get hlt [.str [], .nil, .int .i64 0]
  rw [all_step (d := Cn.no) hlt] at hres
  generalize c.cons.getD k Cn.no = e at *
  simp only [Cn.d] at hg
  (simp only [go_sem] at hL ⊢)
  rcases (Decidable.em (e.name.length ≤ 40)).symm with q0 | q0
  ·have w0 : decide (40 < (e.name.length : Int)) = true := decide_eq_true (by omega)
   rw [show fcC e = false from decide_eq_false (by omega), Bool.false_and] at hres
   subst hres
   (repeat' (first | (with_reducible first | exact True.intro | refine And.intro ?_ ?_ | refine aBl ?_ | ((first | refine aS1 9 [] ?_ | refine aS2 9 [] ?_ | refine aS3 9 [] ?_ | refine aS4 9 [] ?_ | refine aSq 9 [] ?_); intro K hK)) | ((with_reducible first | refine aRg ?_ | refine aEx ?_ | refine aSk ?_ | refine aRt ?_ | refine aLk ?_ | refine aOt ?_ | refine rP Ty_ok mixed 3 [1, 4] [.mid [pe 0, pe 2, ⟨3, 0, true, false, false, [], []⟩, ⟨5, 1, false, false, false, [0], []⟩, ⟨6, 1, true, false, false, [], [0]⟩, ⟨7, 2, false, false, false, [0], []⟩] 2] ?_); simp only [hg, hq, hlf, w0, go_sem]) | ((with_reducible refine aCd ?_ ?_ (fun hb => ?_) (fun hb => ?_)); (simp only [hg, hq, hlf, w0, go_sem]); (simp only [hg, hq, hlf, w0, go_sem]); all_goals (simp only [hg, hq, hlf, w0, go_sem] at hb; try simp only [bls] at hb)) | ((iterate 6 try ((fail_if_success with_reducible refine hK _ ?_ ?_ ?_); clear hK K)); with_reducible refine hK _ ?_ ?_ ?_; rotate_left; (focus (simp only [hg, hq, hlf, w0, go_sem]; exact rfl)); clear hK K) | (with_reducible refine aGs (fun hg0 => ?_) (fun hg0 => ?_) <;> first | (with_reducible first | exact aF1 hg0 | exact aF2 hg0) | (simp only [hg0, hg, hq, hlf, w0, go_sem])) | (with_reducible refine aNk ?_; intro bnil hnil; try simp only []) | (omega; done) | (intro hv; (try simp only [bls] at hv); (try simp only [bls]); omega) | (intro hg; (simp only [hg, Bool.true_and, true_and, implies_true]; try (intro hg2; simp only [hg2, Bool.not_false, Bool.not_true])); done)))
   all_goals first | omega | rfl | skip
  have w0 : decide (40 < (e.name.length : Int)) = false := decide_eq_false (by omega)
  rcases (Decidable.em (e.terms.length ≤ 6)).symm with q1 | q1
  ·have w1 : decide (6 < (e.terms.length : Int)) = true := decide_eq_true (by omega)
   rw [show fcC e = false from decide_eq_false (by omega), Bool.false_and] at hres
   subst hres
   (repeat' (first | (with_reducible first | exact True.intro | refine And.intro ?_ ?_ | refine aBl ?_ | ((first | refine aS1 9 [] ?_ | refine aS2 9 [] ?_ | refine aS3 9 [] ?_ | refine aS4 9 [] ?_ | refine aSq 9 [] ?_); intro K hK)) | ((with_reducible first | refine aRg ?_ | refine aEx ?_ | refine aSk ?_ | refine aRt ?_ | refine aLk ?_ | refine aOt ?_ | refine rP Ty_ok mixed 3 [1, 4] [.mid [pe 0, pe 2, ⟨3, 0, true, false, false, [], []⟩, ⟨5, 1, false, false, false, [0], []⟩, ⟨6, 1, true, false, false, [], [0]⟩, ⟨7, 2, false, false, false, [0], []⟩] 2] ?_); simp only [hg, hq, hlf, w0, w1, go_sem]) | ((with_reducible refine aCd ?_ ?_ (fun hb => ?_) (fun hb => ?_)); (simp only [hg, hq, hlf, w0, w1, go_sem]); (simp only [hg, hq, hlf, w0, w1, go_sem]); all_goals (simp only [hg, hq, hlf, w0, w1, go_sem] at hb; try simp only [bls] at hb)) | ((iterate 6 try ((fail_if_success with_reducible refine hK _ ?_ ?_ ?_); clear hK K)); with_reducible refine hK _ ?_ ?_ ?_; rotate_left; (focus (simp only [hg, hq, hlf, w0, w1, go_sem]; exact rfl)); clear hK K) | (with_reducible refine aGs (fun hg0 => ?_) (fun hg0 => ?_) <;> first | (with_reducible first | exact aF1 hg0 | exact aF2 hg0) | (simp only [hg0, hg, hq, hlf, w0, w1, go_sem])) | (with_reducible refine aNk ?_; intro bnil hnil; try simp only []) | (omega; done) | (intro hv; (try simp only [bls] at hv); (try simp only [bls]); omega) | (intro hg; (simp only [hg, Bool.true_and, true_and, implies_true]; try (intro hg2; simp only [hg2, Bool.not_false, Bool.not_true])); done)))
   all_goals first | omega | rfl | skip
  have w1 : decide (6 < (e.terms.length : Int)) = false := decide_eq_false (by omega)
  rw [show fcC e = true from decide_eq_true (by omega), Bool.true_and] at hres
  (repeat' (first | (with_reducible first | exact True.intro | refine And.intro ?_ ?_ | refine aBl ?_ | ((first | refine aS1 9 [] ?_ | refine aS2 9 [] ?_ | refine aS3 9 [] ?_ | refine aS4 9 [] ?_ | refine aSq 9 [] ?_); intro K hK)) | ((with_reducible first | refine aRg ?_ | refine aEx ?_ | refine aSk ?_ | refine aRt ?_ | refine aLk ?_ | refine aOt ?_ | refine rP Ty_ok mixed 3 [1, 4] [.mid [pe 0, pe 2, ⟨3, 0, true, false, false, [], []⟩, ⟨5, 1, false, false, false, [0], []⟩, ⟨6, 1, true, false, false, [], [0]⟩, ⟨7, 2, false, false, false, [0], []⟩] 2] ?_); simp only [hg, hq, hlf, w0, w1, go_sem]) | ((with_reducible refine aCd ?_ ?_ (fun hb => ?_) (fun hb => ?_)); (simp only [hg, hq, hlf, w0, w1, go_sem]); (simp only [hg, hq, hlf, w0, w1, go_sem]); all_goals (simp only [hg, hq, hlf, w0, w1, go_sem] at hb; try simp only [bls] at hb)) | ((iterate 6 try ((fail_if_success with_reducible refine hK _ ?_ ?_ ?_); clear hK K)); with_reducible refine hK _ ?_ ?_ ?_; rotate_left; (focus (simp only [hg, hq, hlf, w0, w1, go_sem]; exact rfl)); clear hK K) | (with_reducible refine aGs (fun hg0 => ?_) (fun hg0 => ?_) <;> first | (with_reducible first | exact aF1 hg0 | exact aF2 hg0) | (simp only [hg0, hg, hq, hlf, w0, w1, go_sem])) | (with_reducible refine aNk ?_; intro bnil hnil; try simp only []) | (omega; done) | (intro hv; (try simp only [bls] at hv); (try simp only [bls]); omega) | (intro hg; (simp only [hg, Bool.true_and, true_and, implies_true]; try (intro hg2; simp only [hg2, Bool.not_false, Bool.not_true])); done)))
  all_goals first | omega | skip
  exact hL _ (k + 1) ⟨by omega, hres⟩ (by (simp only [SubF, go_sem]; (try simp only [go_sem]); repeat' (first | exact True.intro | with_reducible refine And.intro ?_ ?_ | rfl | omega))) (by omega)
 have hkl : k = c.cons.length := by omega
 subst hkl
 have hlf : decide ((c.cons.length : Int) < c.cons.length) = false := decide_eq_false (by omega)
 rw [List.drop_length, List.all_nil] at hres
 (simp only [go_sem] at hL ⊢)
 (repeat' (first | (with_reducible first | exact True.intro | refine And.intro ?_ ?_ | refine aBl ?_ | ((first | refine aS1 9 [] ?_ | refine aS2 9 [] ?_ | refine aS3 9 [] ?_ | refine aS4 9 [] ?_ | refine aSq 9 [] ?_); intro K hK)) | ((with_reducible first | refine aRg ?_ | refine aEx ?_ | refine aSk ?_ | refine aRt ?_ | refine aLk ?_ | refine aOt ?_ | refine rP Ty_ok mixed 3 [1, 4] [.mid [pe 0, pe 2, ⟨3, 0, true, false, false, [], []⟩, ⟨5, 1, false, false, false, [0], []⟩, ⟨6, 1, true, false, false, [], [0]⟩, ⟨7, 2, false, false, false, [0], []⟩] 2] ?_); simp only [hlf, go_sem]) | ((with_reducible refine aCd ?_ ?_ (fun hb => ?_) (fun hb => ?_)); (simp only [hlf, go_sem]); (simp only [hlf, go_sem]); all_goals (simp only [hlf, go_sem] at hb; try simp only [bls] at hb)) | ((iterate 6 try ((fail_if_success with_reducible refine hK _ ?_ ?_ ?_); clear hK K)); with_reducible refine hK _ ?_ ?_ ?_; rotate_left; (focus (simp only [hlf, go_sem]; exact rfl)); clear hK K) | (with_reducible refine aGs (fun hg0 => ?_) (fun hg0 => ?_) <;> first | (with_reducible first | exact aF1 hg0 | exact aF2 hg0) | (simp only [hg0, hlf, go_sem])) | (with_reducible refine aNk ?_; intro bnil hnil; try simp only []) | (omega; done) | (intro hv; (try simp only [bls] at hv); (try simp only [bls]); omega) | (intro hg; (simp only [hg, Bool.true_and, true_and, implies_true]; try (intro hg2; simp only [hg2, Bool.not_false, Bool.not_true])); done)))
 all_goals first | omega | skip
 rw [hres]
theorem fewC_true {E : List Ev} {c : CE} (h : fewC E c = true) : c.Fits ∧ E.length ≤ 6 ∧ ∀ e ∈ E, e.name.length ≤ 40 := by
 simp only [fewC, fcN, Bool.and_eq_true, decide_eq_true_eq, List.all_eq_true, fcI, fcE, fcX, fcC] at h
 obtain ⟨⟨h1, h2, h3, h4, h5⟩, h6, h7, h8, h9⟩ := h
 refine ⟨⟨⟨by omega, fun x hx => ?_⟩, ⟨by omega, fun x hx => ?_⟩, ⟨by omega, fun x hx => ?_⟩, ⟨by omega, fun x hx => ?_⟩⟩, h1, h7⟩
 ·have := h6 x (List.mem_append_left _ hx)
  exact ⟨by omega, by omega, by omega, by omega⟩
 ·have := h6 x (List.mem_append_right _ hx)
  exact ⟨by omega, by omega, by omega, by omega⟩
 ·have := h8 x hx
  exact ⟨by omega, by omega⟩
 ·have := h9 x hx
  exact ⟨by omega, by omega⟩
set_option maxHeartbeats 16000000 in
set_option maxRecDepth 100000 in
theorem sameCell_c (E : List Ev) (c : CE) (hf : c.Fits) (hE : E.length ≤ 1000) (hif : LFits (lawItems c).1) : ACalls Tryz.prog 26 [.agg (cellD (evs E) c), .agg (cellD (evs E) c)] (.one (.bool true)) [] := by
 have c1 := lawitems_c (evs E) c hf
 have c2 := sameAll_c (lawItems c).1 (lawItems c).1 hif
 rw [decide_eq_true rfl] at c2
 have h3 := hf.comps.1
 have h4 := hf.excl.1
 generalize lawItems c = r at *
 have x1 : ((r.2 : Int) != r.2) = false := by simp
 have x2 : ∀ n : Int, (n != n) = false := by simp
 have x3 : ∀ n : Int, (n == n) = true := by simp
 simp only [cellD] at c1
 (refine ACalls.of_body Ty_ok mixed Tryz.func26 rfl (by kernel_rfl) Tryz.ntmps26 (by simp) (congrArg Array.toList Tryz.results26) ?_)
 simp only [slotsOf, cellD]
 (repeat' (first | (with_reducible first | exact True.intro | refine And.intro ?_ ?_ | refine aBl ?_ | ((first | refine aS1 10 [] ?_ | refine aS2 10 [] ?_ | refine aS3 10 [] ?_ | refine aS4 10 [] ?_ | refine aSq 10 [] ?_); intro K hK)) | ((with_reducible first | refine aRg ?_ | refine aEx ?_ | refine aSk ?_ | refine aRt ?_ | refine aLk ?_ | refine aOt ?_ | refine rD (id := 8) ?_); simp only [x2, x3, go_sem]) | ((with_reducible refine aCd ?_ ?_ (fun hb => ?_) (fun hb => ?_)); (simp only [x2, x3, go_sem]); (simp only [x2, x3, go_sem]); all_goals (simp only [x2, x3, go_sem] at hb; try simp only [bls] at hb)) | ((iterate 6 try ((fail_if_success with_reducible refine hK _ ?_ ?_ ?_); clear hK K)); with_reducible refine hK _ ?_ ?_ ?_; rotate_left; (focus (simp only [x2, x3, go_sem]; exact rfl)); clear hK K) | ((first | (with_reducible first | refine cA (by assumption) ?_ | refine cD (by assumption) ?_ | refine cO (by assumption) ?_ | refine cR (by assumption) ?_ | refine cG (fun hg => (by assumption)) ?_ | refine cH (fun hg => (by assumption)) ?_ | refine cM (fun hg => (by assumption)) ?_) | (guard_target = CallAt _ _ _ _ _ _ _ _ _ _; refine cA (by assumption) ?_) | (guard_target = DCallAt _ _ _ _ _ _ _ _; refine cD (by assumption) ?_) | (guard_target = GCallAt _ _ _ _ _ _ _ _ _ _ _; refine cG (fun hg => (by assumption)) ?_)); simp only [x2, x3, go_sem]) | (with_reducible refine aGs (fun hg0 => ?_) (fun hg0 => ?_) <;> first | (with_reducible first | exact aF1 hg0 | exact aF2 hg0) | (simp only [hg0, x2, x3, go_sem])) | (with_reducible refine aNk ?_; intro bnil hnil; try simp only []) | (omega; done) | (intro hv; (try simp only [bls] at hv); (try simp only [bls]); omega) | (intro hg; (simp only [hg, Bool.true_and, true_and, implies_true]; try (intro hg2; simp only [hg2, Bool.not_false, Bool.not_true])); done)))
 all_goals first | omega | skip
 refine awp_loop _ (by simp only [go_sem]; rfl) Nat (fun k => k ≤ E.length) (fun k => [(9, .one (.int .i64 k))]) (fun _ H => H) (fun k => E.length - k) 0 (by omega) ?_ ?_
 ·(simp only [SubF, go_sem]; (try simp only [go_sem]); repeat' (first | exact True.intro | with_reducible refine And.intro ?_ ?_ | rfl | omega))
 rintro k hk L hL
 have hq : ((k : Nat) : Int).toNat = k := by omega
 rcases (Decidable.em (k < E.length)) with hlt | hlt
 ·have hlf : decide ((k : Int) < E.length) = true := decide_eq_true (by omega)
  (simp only [go_sem] at hL ⊢)
  (repeat' (first | (with_reducible first | exact True.intro | refine And.intro ?_ ?_ | refine aBl ?_ | ((first | refine aS1 10 [] ?_ | refine aS2 10 [] ?_ | refine aS3 10 [] ?_ | refine aS4 10 [] ?_ | refine aSq 10 [] ?_); intro K hK)) | ((with_reducible first | refine aRg ?_ | refine aEx ?_ | refine aSk ?_ | refine aRt ?_ | refine aLk ?_ | refine aOt ?_ | refine rD (id := 8) ?_); simp only [hq, hlf, go_sem]) | ((with_reducible refine aCd ?_ ?_ (fun hb => ?_) (fun hb => ?_)); (simp only [hq, hlf, go_sem]); (simp only [hq, hlf, go_sem]); all_goals (simp only [hq, hlf, go_sem] at hb; try simp only [bls] at hb)) | ((iterate 6 try ((fail_if_success with_reducible refine hK _ ?_ ?_ ?_); clear hK K)); with_reducible refine hK _ ?_ ?_ ?_; rotate_left; (focus (simp only [hq, hlf, go_sem]; exact rfl)); clear hK K) | (with_reducible refine aGs (fun hg0 => ?_) (fun hg0 => ?_) <;> first | (with_reducible first | exact aF1 hg0 | exact aF2 hg0) | (simp only [hg0, hq, hlf, go_sem])) | (with_reducible refine aNk ?_; intro bnil hnil; try simp only []) | (omega; done) | (intro hv; (try simp only [bls] at hv); (try simp only [bls]); omega) | (intro hg; (simp only [hg, Bool.true_and, true_and, implies_true]; try (intro hg2; simp only [hg2, Bool.not_false, Bool.not_true])); done)))
  all_goals first | omega | skip
  exact hL _ (k + 1) (by omega) (by (simp only [SubF, go_sem]; (try simp only [go_sem]); repeat' (first | exact True.intro | with_reducible refine And.intro ?_ ?_ | rfl | omega))) (by omega)
 have hkl : k = E.length := by omega
 subst hkl
 have hlf : decide ((E.length : Int) < E.length) = false := decide_eq_false (by omega)
 (simp only [go_sem] at hL ⊢)
 (repeat' (first | (with_reducible first | exact True.intro | refine And.intro ?_ ?_ | refine aBl ?_ | ((first | refine aS1 10 [] ?_ | refine aS2 10 [] ?_ | refine aS3 10 [] ?_ | refine aS4 10 [] ?_ | refine aSq 10 [] ?_); intro K hK)) | ((with_reducible first | refine aRg ?_ | refine aEx ?_ | refine aSk ?_ | refine aRt ?_ | refine aLk ?_ | refine aOt ?_ | refine rD (id := 8) ?_); simp only [hlf, x3, go_sem]) | ((with_reducible refine aCd ?_ ?_ (fun hb => ?_) (fun hb => ?_)); (simp only [hlf, x3, go_sem]); (simp only [hlf, x3, go_sem]); all_goals (simp only [hlf, x3, go_sem] at hb; try simp only [bls] at hb)) | ((iterate 6 try ((fail_if_success with_reducible refine hK _ ?_ ?_ ?_); clear hK K)); with_reducible refine hK _ ?_ ?_ ?_; rotate_left; (focus (simp only [hlf, x3, go_sem]; exact rfl)); clear hK K) | (with_reducible refine aGs (fun hg0 => ?_) (fun hg0 => ?_) <;> first | (with_reducible first | exact aF1 hg0 | exact aF2 hg0) | (simp only [hg0, hlf, x3, go_sem])) | (with_reducible refine aNk ?_; intro bnil hnil; try simp only []) | (omega; done) | (intro hv; (try simp only [bls] at hv); (try simp only [bls]); omega) | (intro hg; (simp only [hg, Bool.true_and, true_and, implies_true]; try (intro hg2; simp only [hg2, Bool.not_false, Bool.not_true])); done)))
 all_goals first | omega | skip
end Go.Proofs.YtkjnjkdcpbgabaaGreatDoor
