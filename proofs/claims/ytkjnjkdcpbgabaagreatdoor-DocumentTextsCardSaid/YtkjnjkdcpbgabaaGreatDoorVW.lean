/-
 Chapter 23: the law DocumentTexts.
-/
import Derived.Test.YtkjnjkdcpbgabaaGreatDoorVT
set_option linter.unusedSimpArgs false
set_option linter.unusedVariables false
namespace Go.Proofs.YtkjnjkdcpbgabaaGreatDoor
open Go.Eng Go.RowKit
theorem textE_au {E : List Ev} {x : It} (h : textE E x = 0) : chkAU x.aut = 0 := by
 rw [textE] at h
 by_cases h1 : checkEv E = 0
 ·rw [if_neg (by simp [h1])] at h
  by_cases h2 : chkL [x] = 0
  ·rw [if_neg (by simp [h2])] at h
   by_cases h3 : chkAU x.aut = 0
   ·exact h3
   ·rw [if_pos h3] at h; exact absurd h h3
  ·rw [if_pos h2] at h; exact absurd h h2
 ·rw [if_pos h1] at h; exact absurd h h1
theorem any_step' {α : Type} {p : α → Bool} {l : List α} {d : α} {k : Nat} (hk : k < l.length) : (l.drop k).any p = (p (l.getD k d) || (l.drop (k + 1)).any p) := by
 rw [drop_getD l k d hk, List.any_cons]
def preE (E : List Ev) (x : It) : Int := if checkEv E ≠ 0 then checkEv E else if chkL [x] ≠ 0 then chkL [x] else chkAU x.aut
theorem textE_pre (E : List Ev) (x : It) : textE E x = if preE E x ≠ 0 then preE E x else if x.aut.alpha.any (fun i => decide ((E.length : Int) ≤ i)) = true then 2 else 0 := by
 rw [textE, preE]
 by_cases h1 : checkEv E = 0
 ·by_cases h2 : chkL [x] = 0
  ·by_cases h3 : chkAU x.aut = 0
   ·simp [h1, h2, h3]
   ·simp [h1, h2, h3]
  ·simp [h1, h2]
 ·simp [h1]
set_option maxHeartbeats 32000000 in
set_option maxRecDepth 100000 in
theorem Texts_law (E : List Ev) (x : It) (hi : ItOk x) : ACalls Tryz.prog 6 [.one (.list (evs E)), .agg x.d] (.one (.bool true)) [] := by
 have kn := known_c
 have f2 := few_c [x]
 rw [fewB_one, show itD [x] = [x.d] from rfl] at f2
 simp only [It.d] at f2
 by_cases h1 : E.length ≤ 6
 ·have d6 : decide (6 < (E.length : Int)) = false := decide_eq_false (by omega)
  by_cases h2 : fewI x = true
  ·rw [h2] at f2
   have hx := fewI_fits h2
   by_cases h3 : x.aut.states ≤ 40
   ·have d40 : decide (40 < x.aut.states) = false := decide_eq_false (by omega)
    have c2 := lawcheck_c [x] ⟨by simp, fun y hy => by rw [List.mem_singleton.1 hy]; exact hx⟩
    have c3 := refAuCheck_c x.aut hx.aut
    rw [show itD [x] = [x.d] from rfl] at c2
    simp only [It.d, AU.d] at c2 c3
    (refine ACalls.of_body Ty_ok mixed Tryz.func6 rfl (by kernel_rfl) Tryz.ntmps6 (by simp) (congrArg Array.toList Tryz.results6) ?_)
    simp only [slotsOf, It.d]
    (repeat' (first | (with_reducible first | exact True.intro | refine And.intro ?_ ?_ | refine aBl ?_ | ((first | refine aS1 10 [] ?_ | refine aS2 10 [] ?_ | refine aS3 10 [] ?_ | refine aS4 10 [] ?_ | refine aSq 10 [] ?_); intro K hK)) | ((with_reducible first | refine aRg ?_ | refine aEx ?_ | refine aSk ?_ | refine aRt ?_ | refine aLk ?_ | refine aOt ?_); simp only [d6, d40, go_sem]) | ((with_reducible refine aCd ?_ ?_ (fun hb => ?_) (fun hb => ?_)); (simp only [d6, d40, go_sem]); (simp only [d6, d40, go_sem]); all_goals (simp only [d6, d40, go_sem] at hb; try simp only [bls] at hb)) | ((iterate 6 try ((fail_if_success with_reducible refine hK _ ?_ ?_ ?_); clear hK K)); with_reducible refine hK _ ?_ ?_ ?_; rotate_left; (focus (simp only [d6, d40, go_sem]; exact rfl)); clear hK K) | ((first | (with_reducible first | refine cA (by assumption) ?_ | refine cD (by assumption) ?_ | refine cO (by assumption) ?_ | refine cR (by assumption) ?_ | refine cG (fun hg => (by assumption)) ?_ | refine cH (fun hg => (by assumption)) ?_ | refine cM (fun hg => (by assumption)) ?_) | (guard_target = CallAt _ _ _ _ _ _ _ _ _ _; refine cA (by assumption) ?_) | (guard_target = DCallAt _ _ _ _ _ _ _ _; refine cD (by assumption) ?_) | (guard_target = GCallAt _ _ _ _ _ _ _ _ _ _ _; refine cG (fun hg => (by assumption)) ?_)); simp only [d6, d40, go_sem]) | (with_reducible refine aGs (fun hg0 => ?_) (fun hg0 => ?_) <;> first | (with_reducible first | exact aF1 hg0 | exact aF2 hg0) | (simp only [hg0, d6, d40, go_sem])) | (with_reducible refine aNk ?_; intro bnil hnil; try simp only []) | (omega; done) | (intro hv; (try simp only [bls] at hv); (try simp only [bls]); omega) | (intro hg; (simp only [hg, Bool.true_and, true_and, implies_true]; try (intro hg2; simp only [hg2, Bool.not_false, Bool.not_true])); done)))
    all_goals first | omega | skip
    refine awp_loop _ (by simp only [go_sem]; rfl) Nat (fun k => k ≤ E.length ∧ ∀ e ∈ E.take k, e.name.length ≤ 40) (fun k => [(5, .one (.int .i64 k))]) (fun _ H => H) (fun k => E.length - k) 0 ⟨by omega, by simp⟩ ?_ ?_
    ·(simp only [SubF, go_sem]; (try simp only [go_sem]); repeat' (first | exact True.intro | with_reducible refine And.intro ?_ ?_ | rfl | omega))
    rintro k ⟨hk, hpre⟩ L hL
    have hq : ((k : Nat) : Int).toNat = k := by omega
    rcases (Decidable.em (k < E.length)) with hlt | hlt
    ·have hlf : decide ((k : Int) < E.length) = true := decide_eq_true (by omega)
     have hst : E.take (k + 1) = E.take k ++ [E.getD k Ev.no] := take_succ_getD E k Ev.no hlt
     generalize hed : E.getD k Ev.no = e at *
     rcases (Decidable.em (e.name.length ≤ 40)).symm with hn | hn
     ·have hnf : decide (40 < (e.name.length : Int)) = true := decide_eq_true (by omega)
      (simp only [go_sem] at hL ⊢)
      (repeat' (first | (with_reducible first | exact True.intro | refine And.intro ?_ ?_ | refine aBl ?_ | ((first | refine aS1 10 [] ?_ | refine aS2 10 [] ?_ | refine aS3 10 [] ?_ | refine aS4 10 [] ?_ | refine aSq 10 [] ?_); intro K hK)) | ((with_reducible first | refine aRg ?_ | refine aEx ?_ | refine aSk ?_ | refine aRt ?_ | refine aLk ?_ | refine aOt ?_); simp only [hq, hlf, hed, hnf, go_sem]) | ((with_reducible refine aCd ?_ ?_ (fun hb => ?_) (fun hb => ?_)); (simp only [hq, hlf, hed, hnf, go_sem]); (simp only [hq, hlf, hed, hnf, go_sem]); all_goals (simp only [hq, hlf, hed, hnf, go_sem] at hb; try simp only [bls] at hb)) | ((iterate 6 try ((fail_if_success with_reducible refine hK _ ?_ ?_ ?_); clear hK K)); with_reducible refine hK _ ?_ ?_ ?_; rotate_left; (focus (simp only [hq, hlf, hed, hnf, go_sem]; exact rfl)); clear hK K) | (with_reducible refine aGs (fun hg0 => ?_) (fun hg0 => ?_) <;> first | (with_reducible first | exact aF1 hg0 | exact aF2 hg0) | (simp only [hg0, hq, hlf, hed, hnf, go_sem])) | (with_reducible refine aNk ?_; intro bnil hnil; try simp only []) | (omega; done) | (intro hv; (try simp only [bls] at hv); (try simp only [bls]); omega) | (intro hg; (simp only [hg, Bool.true_and, true_and, implies_true]; try (intro hg2; simp only [hg2, Bool.not_false, Bool.not_true])); done)))
      all_goals first | omega | skip
     ·have hnf : decide (40 < (e.name.length : Int)) = false := decide_eq_false (by omega)
      (simp only [go_sem] at hL ⊢)
      (repeat' (first | (with_reducible first | exact True.intro | refine And.intro ?_ ?_ | refine aBl ?_ | ((first | refine aS1 10 [] ?_ | refine aS2 10 [] ?_ | refine aS3 10 [] ?_ | refine aS4 10 [] ?_ | refine aSq 10 [] ?_); intro K hK)) | ((with_reducible first | refine aRg ?_ | refine aEx ?_ | refine aSk ?_ | refine aRt ?_ | refine aLk ?_ | refine aOt ?_); simp only [hq, hlf, hed, hnf, go_sem]) | ((with_reducible refine aCd ?_ ?_ (fun hb => ?_) (fun hb => ?_)); (simp only [hq, hlf, hed, hnf, go_sem]); (simp only [hq, hlf, hed, hnf, go_sem]); all_goals (simp only [hq, hlf, hed, hnf, go_sem] at hb; try simp only [bls] at hb)) | ((iterate 6 try ((fail_if_success with_reducible refine hK _ ?_ ?_ ?_); clear hK K)); with_reducible refine hK _ ?_ ?_ ?_; rotate_left; (focus (simp only [hq, hlf, hed, hnf, go_sem]; exact rfl)); clear hK K) | (with_reducible refine aGs (fun hg0 => ?_) (fun hg0 => ?_) <;> first | (with_reducible first | exact aF1 hg0 | exact aF2 hg0) | (simp only [hg0, hq, hlf, hed, hnf, go_sem])) | (with_reducible refine aNk ?_; intro bnil hnil; try simp only []) | (omega; done) | (intro hv; (try simp only [bls] at hv); (try simp only [bls]); omega) | (intro hg; (simp only [hg, Bool.true_and, true_and, implies_true]; try (intro hg2; simp only [hg2, Bool.not_false, Bool.not_true])); done)))
      all_goals first | omega | skip
      refine hL _ (k + 1) ⟨by omega, fun y hy => ?_⟩ (by (simp only [SubF, go_sem]; (try simp only [go_sem]); repeat' (first | exact True.intro | with_reducible refine And.intro ?_ ?_ | rfl | omega))) (by omega)
      rw [hst] at hy
      rcases List.mem_append.1 hy with hy | hy
      ·exact hpre y hy
      ·rw [List.mem_singleton.1 hy]; exact hn
    have hkl : k = E.length := by omega
    subst hkl
    have hlf : decide ((E.length : Int) < E.length) = false := decide_eq_false (by omega)
    rw [List.take_length] at hpre
    clear hL
    obtain ⟨tf, ta, te⟩ := tfits_of h1 hpre h2 hi h3
    have c4 := Text_c E x tf hx (fun h0 => body_len hpre tf ta te h3 (chkAU_ok (textE_au h0)))
    have c5 : textE E x = 0 → _ := text_c E x tf
    rw [textR] at c4
    have c1 := alCheck_c E (by omega) fun e he => by have := hpre e he; omega
    have hW := textE_pre E x
    have hP : preE E x = if checkEv E ≠ 0 then checkEv E else if chkL [x] ≠ 0 then chkL [x] else chkAU x.aut := rfl
    generalize preE E x = P at *
    generalize textE E x = W at *
    generalize checkEv E = e1 at *
    generalize chkL [x] = e2 at *
    generalize chkAU x.aut = e3 at *
    generalize bodyS E x = B at *
    simp only [It.d] at c4 c5
    have hmid : ∀ w : Int, (W = if w ≠ 0 then w else if x.aut.alpha.any (fun i => decide ((E.length : Int) ≤ i)) = true then 2 else 0) → True := fun _ _ => trivial
    by_cases q1 : e1 = 0
    ·by_cases q2 : e2 = 0
     ·rw [if_neg (by simp [q1]), if_neg (by simp [q2])] at hP
      subst q1 q2 hP
      (simp only [go_sem])
      (repeat' (first | (with_reducible first | exact True.intro | refine And.intro ?_ ?_ | refine aBl ?_ | ((first | refine aS1 10 [] ?_ | refine aS2 10 [] ?_ | refine aS3 10 [] ?_ | refine aS4 10 [] ?_ | refine aSq 10 [] ?_); intro K hK)) | ((with_reducible first | refine aRg ?_ | refine aEx ?_ | refine aSk ?_ | refine aRt ?_ | refine aLk ?_ | refine aOt ?_); simp only [hlf, go_sem]) | ((with_reducible refine aCd ?_ ?_ (fun hb => ?_) (fun hb => ?_)); (simp only [hlf, go_sem]); (simp only [hlf, go_sem]); all_goals (simp only [hlf, go_sem] at hb; try simp only [bls] at hb)) | ((iterate 6 try ((fail_if_success with_reducible refine hK _ ?_ ?_ ?_); clear hK K)); with_reducible refine hK _ ?_ ?_ ?_; rotate_left; (focus (simp only [hlf, go_sem]; exact rfl)); clear hK K) | ((first | (with_reducible first | refine cA (by assumption) ?_ | refine cD (by assumption) ?_ | refine cO (by assumption) ?_ | refine cR (by assumption) ?_ | refine cG (fun hg => (by assumption)) ?_ | refine cH (fun hg => (by assumption)) ?_ | refine cM (fun hg => (by assumption)) ?_) | (guard_target = CallAt _ _ _ _ _ _ _ _ _ _; refine cA (by assumption) ?_) | (guard_target = DCallAt _ _ _ _ _ _ _ _; refine cD (by assumption) ?_) | (guard_target = GCallAt _ _ _ _ _ _ _ _ _ _ _; refine cG (fun hg => (by assumption)) ?_)); simp only [hlf, go_sem]) | (with_reducible refine aGs (fun hg0 => ?_) (fun hg0 => ?_) <;> first | (with_reducible first | exact aF1 hg0 | exact aF2 hg0) | (simp only [hg0, hlf, go_sem])) | (with_reducible refine aNk ?_; intro bnil hnil; try simp only []) | (omega; done) | (intro hv; (try simp only [bls] at hv); (try simp only [bls]); omega) | (intro hg; (simp only [hg, Bool.true_and, true_and, implies_true]; try (intro hg2; simp only [hg2, Bool.not_false, Bool.not_true])); done)))
      all_goals first | omega | skip
      refine awp_loop _ (by simp only [go_sem]; rfl) (Nat × Int) (fun z => z.1 ≤ x.aut.alpha.length ∧ W = if z.2 ≠ 0 then z.2 else if (x.aut.alpha.drop z.1).any (fun i => decide ((E.length : Int) ≤ i)) = true then 2 else 0) (fun z => [(6, .one (.int .i64 z.2)), (7, .one (.int .i64 z.1))]) (fun _ H => H) (fun z => x.aut.alpha.length - z.1) (0, P) ⟨by omega, by simpa using hW⟩ ?_ ?_
      ·(simp only [SubF, go_sem]; (try simp only [go_sem]); repeat' (first | exact True.intro | with_reducible refine And.intro ?_ ?_ | rfl | omega))
      rintro ⟨j, w⟩ ⟨hj, hres⟩ L hL
      dsimp only at hj hres
      have hqj : ((j : Nat) : Int).toNat = j := by omega
      rcases (Decidable.em (w = 0)) with hw | hw
      ·subst hw
       rw [if_neg (by decide)] at hres
       rcases (Decidable.em (j < x.aut.alpha.length)) with hjl | hjl
       ·have hjf : decide ((j : Int) < x.aut.alpha.length) = true := decide_eq_true (by omega)
        rw [any_step' (d := 0) hjl] at hres
        generalize hid : x.aut.alpha.getD j 0 = i at *
        rcases (Decidable.em ((E.length : Int) ≤ i)) with hei | hei
        ·have hef : decide ((E.length : Int) ≤ i) = true := decide_eq_true hei
         rw [hef, Bool.true_or, if_pos rfl] at hres
         (simp only [go_sem] at hL ⊢)
         (repeat' (first | (with_reducible first | exact True.intro | refine And.intro ?_ ?_ | refine aBl ?_ | ((first | refine aS1 10 [] ?_ | refine aS2 10 [] ?_ | refine aS3 10 [] ?_ | refine aS4 10 [] ?_ | refine aSq 10 [] ?_); intro K hK)) | ((with_reducible first | refine aRg ?_ | refine aEx ?_ | refine aSk ?_ | refine aRt ?_ | refine aLk ?_ | refine aOt ?_); simp only [hqj, hjf, hid, hef, go_sem]) | ((with_reducible refine aCd ?_ ?_ (fun hb => ?_) (fun hb => ?_)); (simp only [hqj, hjf, hid, hef, go_sem]); (simp only [hqj, hjf, hid, hef, go_sem]); all_goals (simp only [hqj, hjf, hid, hef, go_sem] at hb; try simp only [bls] at hb)) | ((iterate 6 try ((fail_if_success with_reducible refine hK _ ?_ ?_ ?_); clear hK K)); with_reducible refine hK _ ?_ ?_ ?_; rotate_left; (focus (simp only [hqj, hjf, hid, hef, go_sem]; exact rfl)); clear hK K) | (with_reducible refine aGs (fun hg0 => ?_) (fun hg0 => ?_) <;> first | (with_reducible first | exact aF1 hg0 | exact aF2 hg0) | (simp only [hg0, hqj, hjf, hid, hef, go_sem])) | (with_reducible refine aNk ?_; intro bnil hnil; try simp only []) | (omega; done) | (intro hv; (try simp only [bls] at hv); (try simp only [bls]); omega) | (intro hg; (simp only [hg, Bool.true_and, true_and, implies_true]; try (intro hg2; simp only [hg2, Bool.not_false, Bool.not_true])); done)))
         all_goals first | omega | skip
         exact hL _ (j + 1, 2) ⟨by omega, by rw [hres]; rfl⟩ (by (simp only [SubF, go_sem]; (try simp only [go_sem]); repeat' (first | exact True.intro | with_reducible refine And.intro ?_ ?_ | rfl | omega))) (by dsimp only; omega)
        ·have hef : decide ((E.length : Int) ≤ i) = false := decide_eq_false hei
         rw [hef, Bool.false_or] at hres
         (simp only [go_sem] at hL ⊢)
         (repeat' (first | (with_reducible first | exact True.intro | refine And.intro ?_ ?_ | refine aBl ?_ | ((first | refine aS1 10 [] ?_ | refine aS2 10 [] ?_ | refine aS3 10 [] ?_ | refine aS4 10 [] ?_ | refine aSq 10 [] ?_); intro K hK)) | ((with_reducible first | refine aRg ?_ | refine aEx ?_ | refine aSk ?_ | refine aRt ?_ | refine aLk ?_ | refine aOt ?_); simp only [hqj, hjf, hid, hef, go_sem]) | ((with_reducible refine aCd ?_ ?_ (fun hb => ?_) (fun hb => ?_)); (simp only [hqj, hjf, hid, hef, go_sem]); (simp only [hqj, hjf, hid, hef, go_sem]); all_goals (simp only [hqj, hjf, hid, hef, go_sem] at hb; try simp only [bls] at hb)) | ((iterate 6 try ((fail_if_success with_reducible refine hK _ ?_ ?_ ?_); clear hK K)); with_reducible refine hK _ ?_ ?_ ?_; rotate_left; (focus (simp only [hqj, hjf, hid, hef, go_sem]; exact rfl)); clear hK K) | (with_reducible refine aGs (fun hg0 => ?_) (fun hg0 => ?_) <;> first | (with_reducible first | exact aF1 hg0 | exact aF2 hg0) | (simp only [hg0, hqj, hjf, hid, hef, go_sem])) | (with_reducible refine aNk ?_; intro bnil hnil; try simp only []) | (omega; done) | (intro hv; (try simp only [bls] at hv); (try simp only [bls]); omega) | (intro hg; (simp only [hg, Bool.true_and, true_and, implies_true]; try (intro hg2; simp only [hg2, Bool.not_false, Bool.not_true])); done)))
         all_goals first | omega | skip
         exact hL _ (j + 1, 0) ⟨by omega, by rw [hres]; rfl⟩ (by (simp only [SubF, go_sem]; (try simp only [go_sem]); repeat' (first | exact True.intro | with_reducible refine And.intro ?_ ?_ | rfl | omega))) (by dsimp only; omega)
       have hjk : j = x.aut.alpha.length := by omega
       subst hjk
       have hjf : decide ((x.aut.alpha.length : Int) < x.aut.alpha.length) = false := decide_eq_false (by omega)
       rw [List.drop_length, List.any_nil, if_neg (by decide)] at hres
       subst hres
       have c6 := c5 rfl
       rw [if_pos rfl] at c4
       (simp only [go_sem] at hL ⊢)
       (repeat' (first | (with_reducible first | exact True.intro | refine And.intro ?_ ?_ | refine aBl ?_ | ((first | refine aS1 10 [] ?_ | refine aS2 10 [] ?_ | refine aS3 10 [] ?_ | refine aS4 10 [] ?_ | refine aSq 10 [] ?_); intro K hK)) | ((with_reducible first | refine aRg ?_ | refine aEx ?_ | refine aSk ?_ | refine aRt ?_ | refine aLk ?_ | refine aOt ?_); simp only [hjf, go_sem]) | ((with_reducible refine aCd ?_ ?_ (fun hb => ?_) (fun hb => ?_)); (simp only [hjf, go_sem]); (simp only [hjf, go_sem]); all_goals (simp only [hjf, go_sem] at hb; try simp only [bls] at hb)) | ((iterate 6 try ((fail_if_success with_reducible refine hK _ ?_ ?_ ?_); clear hK K)); with_reducible refine hK _ ?_ ?_ ?_; rotate_left; (focus (simp only [hjf, go_sem]; exact rfl)); clear hK K) | ((first | (with_reducible first | refine cA (by assumption) ?_ | refine cD (by assumption) ?_ | refine cO (by assumption) ?_ | refine cR (by assumption) ?_ | refine cG (fun hg => (by assumption)) ?_ | refine cH (fun hg => (by assumption)) ?_ | refine cM (fun hg => (by assumption)) ?_) | (guard_target = CallAt _ _ _ _ _ _ _ _ _ _; refine cA (by assumption) ?_) | (guard_target = DCallAt _ _ _ _ _ _ _ _; refine cD (by assumption) ?_) | (guard_target = GCallAt _ _ _ _ _ _ _ _ _ _ _; refine cG (fun hg => (by assumption)) ?_)); simp only [hjf, go_sem]) | (with_reducible refine aGs (fun hg0 => ?_) (fun hg0 => ?_) <;> first | (with_reducible first | exact aF1 hg0 | exact aF2 hg0) | (simp only [hg0, hjf, go_sem])) | (with_reducible refine aNk ?_; intro bnil hnil; try simp only []) | (omega; done) | (intro hv; (try simp only [bls] at hv); (try simp only [bls]); omega) | (intro hg; (simp only [hg, Bool.true_and, true_and, implies_true]; try (intro hg2; simp only [hg2, Bool.not_false, Bool.not_true])); done)))
       all_goals first | omega | skip
      have hwf : (w == 0) = false := by simpa using hw
      rw [if_pos hw] at hres
      subst hres
      rw [if_neg hw] at c4
      (simp only [go_sem] at hL ⊢)
      (repeat' (first | (with_reducible first | exact True.intro | refine And.intro ?_ ?_ | refine aBl ?_ | ((first | refine aS1 10 [] ?_ | refine aS2 10 [] ?_ | refine aS3 10 [] ?_ | refine aS4 10 [] ?_ | refine aSq 10 [] ?_); intro K hK)) | ((with_reducible first | refine aRg ?_ | refine aEx ?_ | refine aSk ?_ | refine aRt ?_ | refine aLk ?_ | refine aOt ?_); simp only [hwf, go_sem]) | ((with_reducible refine aCd ?_ ?_ (fun hb => ?_) (fun hb => ?_)); (simp only [hwf, go_sem]); (simp only [hwf, go_sem]); all_goals (simp only [hwf, go_sem] at hb; try simp only [bls] at hb)) | ((iterate 6 try ((fail_if_success with_reducible refine hK _ ?_ ?_ ?_); clear hK K)); with_reducible refine hK _ ?_ ?_ ?_; rotate_left; (focus (simp only [hwf, go_sem]; exact rfl)); clear hK K) | ((first | (with_reducible first | refine cA c4 ?_ | refine cD c4 ?_ | refine cO c4 ?_ | refine cR c4 ?_ | refine cG (fun hg => c4) ?_ | refine cH (fun hg => c4) ?_ | refine cM (fun hg => c4) ?_) | (guard_target = CallAt _ _ _ _ _ _ _ _ _ _; refine cA c4 ?_) | (guard_target = DCallAt _ _ _ _ _ _ _ _; refine cD c4 ?_) | (guard_target = GCallAt _ _ _ _ _ _ _ _ _ _ _; refine cG (fun hg => c4) ?_)); simp only [hwf, go_sem]) | (with_reducible refine aGs (fun hg0 => ?_) (fun hg0 => ?_) <;> first | (with_reducible first | exact aF1 hg0 | exact aF2 hg0) | (simp only [hg0, hwf, go_sem])) | (with_reducible refine aNk ?_; intro bnil hnil; try simp only []) | (omega; done) | (intro hv; (try simp only [bls] at hv); (try simp only [bls]); omega) | (intro hg; (simp only [hg, Bool.true_and, true_and, implies_true]; try (intro hg2; simp only [hg2, Bool.not_false, Bool.not_true])); done)))
      all_goals first | omega | skip
     ·rw [if_neg (by simp [q1]), if_pos q2] at hP
      have hne2 : (e2 == 0) = false := by simpa using q2
      subst q1 hP
      (simp only [go_sem])
      (repeat' (first | (with_reducible first | exact True.intro | refine And.intro ?_ ?_ | refine aBl ?_ | ((first | refine aS1 10 [] ?_ | refine aS2 10 [] ?_ | refine aS3 10 [] ?_ | refine aS4 10 [] ?_ | refine aSq 10 [] ?_); intro K hK)) | ((with_reducible first | refine aRg ?_ | refine aEx ?_ | refine aSk ?_ | refine aRt ?_ | refine aLk ?_ | refine aOt ?_); simp only [hlf, hne2, go_sem]) | ((with_reducible refine aCd ?_ ?_ (fun hb => ?_) (fun hb => ?_)); (simp only [hlf, hne2, go_sem]); (simp only [hlf, hne2, go_sem]); all_goals (simp only [hlf, hne2, go_sem] at hb; try simp only [bls] at hb)) | ((iterate 6 try ((fail_if_success with_reducible refine hK _ ?_ ?_ ?_); clear hK K)); with_reducible refine hK _ ?_ ?_ ?_; rotate_left; (focus (simp only [hlf, hne2, go_sem]; exact rfl)); clear hK K) | ((first | (with_reducible first | refine cA (by assumption) ?_ | refine cD (by assumption) ?_ | refine cO (by assumption) ?_ | refine cR (by assumption) ?_ | refine cG (fun hg => (by assumption)) ?_ | refine cH (fun hg => (by assumption)) ?_ | refine cM (fun hg => (by assumption)) ?_) | (guard_target = CallAt _ _ _ _ _ _ _ _ _ _; refine cA (by assumption) ?_) | (guard_target = DCallAt _ _ _ _ _ _ _ _; refine cD (by assumption) ?_) | (guard_target = GCallAt _ _ _ _ _ _ _ _ _ _ _; refine cG (fun hg => (by assumption)) ?_)); simp only [hlf, hne2, go_sem]) | (with_reducible refine aGs (fun hg0 => ?_) (fun hg0 => ?_) <;> first | (with_reducible first | exact aF1 hg0 | exact aF2 hg0) | (simp only [hg0, hlf, hne2, go_sem])) | (with_reducible refine aNk ?_; intro bnil hnil; try simp only []) | (omega; done) | (intro hv; (try simp only [bls] at hv); (try simp only [bls]); omega) | (intro hg; (simp only [hg, Bool.true_and, true_and, implies_true]; try (intro hg2; simp only [hg2, Bool.not_false, Bool.not_true])); done)))
      all_goals first | omega | skip
      refine awp_loop _ (by simp only [go_sem]; rfl) (Nat × Int) (fun z => z.1 ≤ x.aut.alpha.length ∧ W = if z.2 ≠ 0 then z.2 else if (x.aut.alpha.drop z.1).any (fun i => decide ((E.length : Int) ≤ i)) = true then 2 else 0) (fun z => [(6, .one (.int .i64 z.2)), (7, .one (.int .i64 z.1))]) (fun _ H => H) (fun z => x.aut.alpha.length - z.1) (0, P) ⟨by omega, by simpa using hW⟩ ?_ ?_
      ·(simp only [SubF, go_sem]; (try simp only [go_sem]); repeat' (first | exact True.intro | with_reducible refine And.intro ?_ ?_ | rfl | omega))
      rintro ⟨j, w⟩ ⟨hj, hres⟩ L hL
      dsimp only at hj hres
      have hqj : ((j : Nat) : Int).toNat = j := by omega
      rcases (Decidable.em (w = 0)) with hw | hw
      ·subst hw
       rw [if_neg (by decide)] at hres
       rcases (Decidable.em (j < x.aut.alpha.length)) with hjl | hjl
       ·have hjf : decide ((j : Int) < x.aut.alpha.length) = true := decide_eq_true (by omega)
        rw [any_step' (d := 0) hjl] at hres
        generalize hid : x.aut.alpha.getD j 0 = i at *
        rcases (Decidable.em ((E.length : Int) ≤ i)) with hei | hei
        ·have hef : decide ((E.length : Int) ≤ i) = true := decide_eq_true hei
         rw [hef, Bool.true_or, if_pos rfl] at hres
         (simp only [go_sem] at hL ⊢)
         (repeat' (first | (with_reducible first | exact True.intro | refine And.intro ?_ ?_ | refine aBl ?_ | ((first | refine aS1 10 [] ?_ | refine aS2 10 [] ?_ | refine aS3 10 [] ?_ | refine aS4 10 [] ?_ | refine aSq 10 [] ?_); intro K hK)) | ((with_reducible first | refine aRg ?_ | refine aEx ?_ | refine aSk ?_ | refine aRt ?_ | refine aLk ?_ | refine aOt ?_); simp only [hqj, hjf, hid, hef, go_sem]) | ((with_reducible refine aCd ?_ ?_ (fun hb => ?_) (fun hb => ?_)); (simp only [hqj, hjf, hid, hef, go_sem]); (simp only [hqj, hjf, hid, hef, go_sem]); all_goals (simp only [hqj, hjf, hid, hef, go_sem] at hb; try simp only [bls] at hb)) | ((iterate 6 try ((fail_if_success with_reducible refine hK _ ?_ ?_ ?_); clear hK K)); with_reducible refine hK _ ?_ ?_ ?_; rotate_left; (focus (simp only [hqj, hjf, hid, hef, go_sem]; exact rfl)); clear hK K) | (with_reducible refine aGs (fun hg0 => ?_) (fun hg0 => ?_) <;> first | (with_reducible first | exact aF1 hg0 | exact aF2 hg0) | (simp only [hg0, hqj, hjf, hid, hef, go_sem])) | (with_reducible refine aNk ?_; intro bnil hnil; try simp only []) | (omega; done) | (intro hv; (try simp only [bls] at hv); (try simp only [bls]); omega) | (intro hg; (simp only [hg, Bool.true_and, true_and, implies_true]; try (intro hg2; simp only [hg2, Bool.not_false, Bool.not_true])); done)))
         all_goals first | omega | skip
         exact hL _ (j + 1, 2) ⟨by omega, by rw [hres]; rfl⟩ (by (simp only [SubF, go_sem]; (try simp only [go_sem]); repeat' (first | exact True.intro | with_reducible refine And.intro ?_ ?_ | rfl | omega))) (by dsimp only; omega)
        ·have hef : decide ((E.length : Int) ≤ i) = false := decide_eq_false hei
         rw [hef, Bool.false_or] at hres
         (simp only [go_sem] at hL ⊢)
         (repeat' (first | (with_reducible first | exact True.intro | refine And.intro ?_ ?_ | refine aBl ?_ | ((first | refine aS1 10 [] ?_ | refine aS2 10 [] ?_ | refine aS3 10 [] ?_ | refine aS4 10 [] ?_ | refine aSq 10 [] ?_); intro K hK)) | ((with_reducible first | refine aRg ?_ | refine aEx ?_ | refine aSk ?_ | refine aRt ?_ | refine aLk ?_ | refine aOt ?_); simp only [hqj, hjf, hid, hef, go_sem]) | ((with_reducible refine aCd ?_ ?_ (fun hb => ?_) (fun hb => ?_)); (simp only [hqj, hjf, hid, hef, go_sem]); (simp only [hqj, hjf, hid, hef, go_sem]); all_goals (simp only [hqj, hjf, hid, hef, go_sem] at hb; try simp only [bls] at hb)) | ((iterate 6 try ((fail_if_success with_reducible refine hK _ ?_ ?_ ?_); clear hK K)); with_reducible refine hK _ ?_ ?_ ?_; rotate_left; (focus (simp only [hqj, hjf, hid, hef, go_sem]; exact rfl)); clear hK K) | (with_reducible refine aGs (fun hg0 => ?_) (fun hg0 => ?_) <;> first | (with_reducible first | exact aF1 hg0 | exact aF2 hg0) | (simp only [hg0, hqj, hjf, hid, hef, go_sem])) | (with_reducible refine aNk ?_; intro bnil hnil; try simp only []) | (omega; done) | (intro hv; (try simp only [bls] at hv); (try simp only [bls]); omega) | (intro hg; (simp only [hg, Bool.true_and, true_and, implies_true]; try (intro hg2; simp only [hg2, Bool.not_false, Bool.not_true])); done)))
         all_goals first | omega | skip
         exact hL _ (j + 1, 0) ⟨by omega, by rw [hres]; rfl⟩ (by (simp only [SubF, go_sem]; (try simp only [go_sem]); repeat' (first | exact True.intro | with_reducible refine And.intro ?_ ?_ | rfl | omega))) (by dsimp only; omega)
       have hjk : j = x.aut.alpha.length := by omega
       subst hjk
       have hjf : decide ((x.aut.alpha.length : Int) < x.aut.alpha.length) = false := decide_eq_false (by omega)
       rw [List.drop_length, List.any_nil, if_neg (by decide)] at hres
       subst hres
       have c6 := c5 rfl
       rw [if_pos rfl] at c4
       (simp only [go_sem] at hL ⊢)
       (repeat' (first | (with_reducible first | exact True.intro | refine And.intro ?_ ?_ | refine aBl ?_ | ((first | refine aS1 10 [] ?_ | refine aS2 10 [] ?_ | refine aS3 10 [] ?_ | refine aS4 10 [] ?_ | refine aSq 10 [] ?_); intro K hK)) | ((with_reducible first | refine aRg ?_ | refine aEx ?_ | refine aSk ?_ | refine aRt ?_ | refine aLk ?_ | refine aOt ?_); simp only [hjf, go_sem]) | ((with_reducible refine aCd ?_ ?_ (fun hb => ?_) (fun hb => ?_)); (simp only [hjf, go_sem]); (simp only [hjf, go_sem]); all_goals (simp only [hjf, go_sem] at hb; try simp only [bls] at hb)) | ((iterate 6 try ((fail_if_success with_reducible refine hK _ ?_ ?_ ?_); clear hK K)); with_reducible refine hK _ ?_ ?_ ?_; rotate_left; (focus (simp only [hjf, go_sem]; exact rfl)); clear hK K) | ((first | (with_reducible first | refine cA (by assumption) ?_ | refine cD (by assumption) ?_ | refine cO (by assumption) ?_ | refine cR (by assumption) ?_ | refine cG (fun hg => (by assumption)) ?_ | refine cH (fun hg => (by assumption)) ?_ | refine cM (fun hg => (by assumption)) ?_) | (guard_target = CallAt _ _ _ _ _ _ _ _ _ _; refine cA (by assumption) ?_) | (guard_target = DCallAt _ _ _ _ _ _ _ _; refine cD (by assumption) ?_) | (guard_target = GCallAt _ _ _ _ _ _ _ _ _ _ _; refine cG (fun hg => (by assumption)) ?_)); simp only [hjf, go_sem]) | (with_reducible refine aGs (fun hg0 => ?_) (fun hg0 => ?_) <;> first | (with_reducible first | exact aF1 hg0 | exact aF2 hg0) | (simp only [hg0, hjf, go_sem])) | (with_reducible refine aNk ?_; intro bnil hnil; try simp only []) | (omega; done) | (intro hv; (try simp only [bls] at hv); (try simp only [bls]); omega) | (intro hg; (simp only [hg, Bool.true_and, true_and, implies_true]; try (intro hg2; simp only [hg2, Bool.not_false, Bool.not_true])); done)))
       all_goals first | omega | skip
      have hwf : (w == 0) = false := by simpa using hw
      rw [if_pos hw] at hres
      subst hres
      rw [if_neg hw] at c4
      (simp only [go_sem] at hL ⊢)
      (repeat' (first | (with_reducible first | exact True.intro | refine And.intro ?_ ?_ | refine aBl ?_ | ((first | refine aS1 10 [] ?_ | refine aS2 10 [] ?_ | refine aS3 10 [] ?_ | refine aS4 10 [] ?_ | refine aSq 10 [] ?_); intro K hK)) | ((with_reducible first | refine aRg ?_ | refine aEx ?_ | refine aSk ?_ | refine aRt ?_ | refine aLk ?_ | refine aOt ?_); simp only [hwf, go_sem]) | ((with_reducible refine aCd ?_ ?_ (fun hb => ?_) (fun hb => ?_)); (simp only [hwf, go_sem]); (simp only [hwf, go_sem]); all_goals (simp only [hwf, go_sem] at hb; try simp only [bls] at hb)) | ((iterate 6 try ((fail_if_success with_reducible refine hK _ ?_ ?_ ?_); clear hK K)); with_reducible refine hK _ ?_ ?_ ?_; rotate_left; (focus (simp only [hwf, go_sem]; exact rfl)); clear hK K) | ((first | (with_reducible first | refine cA c4 ?_ | refine cD c4 ?_ | refine cO c4 ?_ | refine cR c4 ?_ | refine cG (fun hg => c4) ?_ | refine cH (fun hg => c4) ?_ | refine cM (fun hg => c4) ?_) | (guard_target = CallAt _ _ _ _ _ _ _ _ _ _; refine cA c4 ?_) | (guard_target = DCallAt _ _ _ _ _ _ _ _; refine cD c4 ?_) | (guard_target = GCallAt _ _ _ _ _ _ _ _ _ _ _; refine cG (fun hg => c4) ?_)); simp only [hwf, go_sem]) | (with_reducible refine aGs (fun hg0 => ?_) (fun hg0 => ?_) <;> first | (with_reducible first | exact aF1 hg0 | exact aF2 hg0) | (simp only [hg0, hwf, go_sem])) | (with_reducible refine aNk ?_; intro bnil hnil; try simp only []) | (omega; done) | (intro hv; (try simp only [bls] at hv); (try simp only [bls]); omega) | (intro hg; (simp only [hg, Bool.true_and, true_and, implies_true]; try (intro hg2; simp only [hg2, Bool.not_false, Bool.not_true])); done)))
      all_goals first | omega | skip
    ·rw [if_pos q1] at hP
     have hne1 : (e1 == 0) = false := by simpa using q1
     subst hP
     (simp only [go_sem])
     (repeat' (first | (with_reducible first | exact True.intro | refine And.intro ?_ ?_ | refine aBl ?_ | ((first | refine aS1 10 [] ?_ | refine aS2 10 [] ?_ | refine aS3 10 [] ?_ | refine aS4 10 [] ?_ | refine aSq 10 [] ?_); intro K hK)) | ((with_reducible first | refine aRg ?_ | refine aEx ?_ | refine aSk ?_ | refine aRt ?_ | refine aLk ?_ | refine aOt ?_); simp only [hlf, hne1, go_sem]) | ((with_reducible refine aCd ?_ ?_ (fun hb => ?_) (fun hb => ?_)); (simp only [hlf, hne1, go_sem]); (simp only [hlf, hne1, go_sem]); all_goals (simp only [hlf, hne1, go_sem] at hb; try simp only [bls] at hb)) | ((iterate 6 try ((fail_if_success with_reducible refine hK _ ?_ ?_ ?_); clear hK K)); with_reducible refine hK _ ?_ ?_ ?_; rotate_left; (focus (simp only [hlf, hne1, go_sem]; exact rfl)); clear hK K) | ((first | (with_reducible first | refine cA c1 ?_ | refine cD c1 ?_ | refine cO c1 ?_ | refine cR c1 ?_ | refine cG (fun hg => c1) ?_ | refine cH (fun hg => c1) ?_ | refine cM (fun hg => c1) ?_) | (guard_target = CallAt _ _ _ _ _ _ _ _ _ _; refine cA c1 ?_) | (guard_target = DCallAt _ _ _ _ _ _ _ _; refine cD c1 ?_) | (guard_target = GCallAt _ _ _ _ _ _ _ _ _ _ _; refine cG (fun hg => c1) ?_)); simp only [hlf, hne1, go_sem]) | (with_reducible refine aGs (fun hg0 => ?_) (fun hg0 => ?_) <;> first | (with_reducible first | exact aF1 hg0 | exact aF2 hg0) | (simp only [hg0, hlf, hne1, go_sem])) | (with_reducible refine aNk ?_; intro bnil hnil; try simp only []) | (omega; done) | (intro hv; (try simp only [bls] at hv); (try simp only [bls]); omega) | (intro hg; (simp only [hg, Bool.true_and, true_and, implies_true]; try (intro hg2; simp only [hg2, Bool.not_false, Bool.not_true])); done)))
     all_goals first | omega | skip
     refine awp_loop _ (by simp only [go_sem]; rfl) (Nat × Int) (fun z => z.1 ≤ x.aut.alpha.length ∧ W = if z.2 ≠ 0 then z.2 else if (x.aut.alpha.drop z.1).any (fun i => decide ((E.length : Int) ≤ i)) = true then 2 else 0) (fun z => [(6, .one (.int .i64 z.2)), (7, .one (.int .i64 z.1))]) (fun _ H => H) (fun z => x.aut.alpha.length - z.1) (0, P) ⟨by omega, by simpa using hW⟩ ?_ ?_
     ·(simp only [SubF, go_sem]; (try simp only [go_sem]); repeat' (first | exact True.intro | with_reducible refine And.intro ?_ ?_ | rfl | omega))
     rintro ⟨j, w⟩ ⟨hj, hres⟩ L hL
     dsimp only at hj hres
     have hqj : ((j : Nat) : Int).toNat = j := by omega
     rcases (Decidable.em (w = 0)) with hw | hw
     ·subst hw
      rw [if_neg (by decide)] at hres
      rcases (Decidable.em (j < x.aut.alpha.length)) with hjl | hjl
      ·have hjf : decide ((j : Int) < x.aut.alpha.length) = true := decide_eq_true (by omega)
       rw [any_step' (d := 0) hjl] at hres
       generalize hid : x.aut.alpha.getD j 0 = i at *
       rcases (Decidable.em ((E.length : Int) ≤ i)) with hei | hei
       ·have hef : decide ((E.length : Int) ≤ i) = true := decide_eq_true hei
        rw [hef, Bool.true_or, if_pos rfl] at hres
        (simp only [go_sem] at hL ⊢)
        (repeat' (first | (with_reducible first | exact True.intro | refine And.intro ?_ ?_ | refine aBl ?_ | ((first | refine aS1 10 [] ?_ | refine aS2 10 [] ?_ | refine aS3 10 [] ?_ | refine aS4 10 [] ?_ | refine aSq 10 [] ?_); intro K hK)) | ((with_reducible first | refine aRg ?_ | refine aEx ?_ | refine aSk ?_ | refine aRt ?_ | refine aLk ?_ | refine aOt ?_); simp only [hqj, hjf, hid, hef, go_sem]) | ((with_reducible refine aCd ?_ ?_ (fun hb => ?_) (fun hb => ?_)); (simp only [hqj, hjf, hid, hef, go_sem]); (simp only [hqj, hjf, hid, hef, go_sem]); all_goals (simp only [hqj, hjf, hid, hef, go_sem] at hb; try simp only [bls] at hb)) | ((iterate 6 try ((fail_if_success with_reducible refine hK _ ?_ ?_ ?_); clear hK K)); with_reducible refine hK _ ?_ ?_ ?_; rotate_left; (focus (simp only [hqj, hjf, hid, hef, go_sem]; exact rfl)); clear hK K) | (with_reducible refine aGs (fun hg0 => ?_) (fun hg0 => ?_) <;> first | (with_reducible first | exact aF1 hg0 | exact aF2 hg0) | (simp only [hg0, hqj, hjf, hid, hef, go_sem])) | (with_reducible refine aNk ?_; intro bnil hnil; try simp only []) | (omega; done) | (intro hv; (try simp only [bls] at hv); (try simp only [bls]); omega) | (intro hg; (simp only [hg, Bool.true_and, true_and, implies_true]; try (intro hg2; simp only [hg2, Bool.not_false, Bool.not_true])); done)))
        all_goals first | omega | skip
        exact hL _ (j + 1, 2) ⟨by omega, by rw [hres]; rfl⟩ (by (simp only [SubF, go_sem]; (try simp only [go_sem]); repeat' (first | exact True.intro | with_reducible refine And.intro ?_ ?_ | rfl | omega))) (by dsimp only; omega)
       ·have hef : decide ((E.length : Int) ≤ i) = false := decide_eq_false hei
        rw [hef, Bool.false_or] at hres
        (simp only [go_sem] at hL ⊢)
        (repeat' (first | (with_reducible first | exact True.intro | refine And.intro ?_ ?_ | refine aBl ?_ | ((first | refine aS1 10 [] ?_ | refine aS2 10 [] ?_ | refine aS3 10 [] ?_ | refine aS4 10 [] ?_ | refine aSq 10 [] ?_); intro K hK)) | ((with_reducible first | refine aRg ?_ | refine aEx ?_ | refine aSk ?_ | refine aRt ?_ | refine aLk ?_ | refine aOt ?_); simp only [hqj, hjf, hid, hef, go_sem]) | ((with_reducible refine aCd ?_ ?_ (fun hb => ?_) (fun hb => ?_)); (simp only [hqj, hjf, hid, hef, go_sem]); (simp only [hqj, hjf, hid, hef, go_sem]); all_goals (simp only [hqj, hjf, hid, hef, go_sem] at hb; try simp only [bls] at hb)) | ((iterate 6 try ((fail_if_success with_reducible refine hK _ ?_ ?_ ?_); clear hK K)); with_reducible refine hK _ ?_ ?_ ?_; rotate_left; (focus (simp only [hqj, hjf, hid, hef, go_sem]; exact rfl)); clear hK K) | (with_reducible refine aGs (fun hg0 => ?_) (fun hg0 => ?_) <;> first | (with_reducible first | exact aF1 hg0 | exact aF2 hg0) | (simp only [hg0, hqj, hjf, hid, hef, go_sem])) | (with_reducible refine aNk ?_; intro bnil hnil; try simp only []) | (omega; done) | (intro hv; (try simp only [bls] at hv); (try simp only [bls]); omega) | (intro hg; (simp only [hg, Bool.true_and, true_and, implies_true]; try (intro hg2; simp only [hg2, Bool.not_false, Bool.not_true])); done)))
        all_goals first | omega | skip
        exact hL _ (j + 1, 0) ⟨by omega, by rw [hres]; rfl⟩ (by (simp only [SubF, go_sem]; (try simp only [go_sem]); repeat' (first | exact True.intro | with_reducible refine And.intro ?_ ?_ | rfl | omega))) (by dsimp only; omega)
      have hjk : j = x.aut.alpha.length := by omega
      subst hjk
      have hjf : decide ((x.aut.alpha.length : Int) < x.aut.alpha.length) = false := decide_eq_false (by omega)
      rw [List.drop_length, List.any_nil, if_neg (by decide)] at hres
      subst hres
      have c6 := c5 rfl
      rw [if_pos rfl] at c4
      (simp only [go_sem] at hL ⊢)
      (repeat' (first | (with_reducible first | exact True.intro | refine And.intro ?_ ?_ | refine aBl ?_ | ((first | refine aS1 10 [] ?_ | refine aS2 10 [] ?_ | refine aS3 10 [] ?_ | refine aS4 10 [] ?_ | refine aSq 10 [] ?_); intro K hK)) | ((with_reducible first | refine aRg ?_ | refine aEx ?_ | refine aSk ?_ | refine aRt ?_ | refine aLk ?_ | refine aOt ?_); simp only [hjf, go_sem]) | ((with_reducible refine aCd ?_ ?_ (fun hb => ?_) (fun hb => ?_)); (simp only [hjf, go_sem]); (simp only [hjf, go_sem]); all_goals (simp only [hjf, go_sem] at hb; try simp only [bls] at hb)) | ((iterate 6 try ((fail_if_success with_reducible refine hK _ ?_ ?_ ?_); clear hK K)); with_reducible refine hK _ ?_ ?_ ?_; rotate_left; (focus (simp only [hjf, go_sem]; exact rfl)); clear hK K) | ((first | (with_reducible first | refine cA (by assumption) ?_ | refine cD (by assumption) ?_ | refine cO (by assumption) ?_ | refine cR (by assumption) ?_ | refine cG (fun hg => (by assumption)) ?_ | refine cH (fun hg => (by assumption)) ?_ | refine cM (fun hg => (by assumption)) ?_) | (guard_target = CallAt _ _ _ _ _ _ _ _ _ _; refine cA (by assumption) ?_) | (guard_target = DCallAt _ _ _ _ _ _ _ _; refine cD (by assumption) ?_) | (guard_target = GCallAt _ _ _ _ _ _ _ _ _ _ _; refine cG (fun hg => (by assumption)) ?_)); simp only [hjf, go_sem]) | (with_reducible refine aGs (fun hg0 => ?_) (fun hg0 => ?_) <;> first | (with_reducible first | exact aF1 hg0 | exact aF2 hg0) | (simp only [hg0, hjf, go_sem])) | (with_reducible refine aNk ?_; intro bnil hnil; try simp only []) | (omega; done) | (intro hv; (try simp only [bls] at hv); (try simp only [bls]); omega) | (intro hg; (simp only [hg, Bool.true_and, true_and, implies_true]; try (intro hg2; simp only [hg2, Bool.not_false, Bool.not_true])); done)))
      all_goals first | omega | skip
     have hwf : (w == 0) = false := by simpa using hw
     rw [if_pos hw] at hres
     subst hres
     rw [if_neg hw] at c4
     (simp only [go_sem] at hL ⊢)
     (repeat' (first | (with_reducible first | exact True.intro | refine And.intro ?_ ?_ | refine aBl ?_ | ((first | refine aS1 10 [] ?_ | refine aS2 10 [] ?_ | refine aS3 10 [] ?_ | refine aS4 10 [] ?_ | refine aSq 10 [] ?_); intro K hK)) | ((with_reducible first | refine aRg ?_ | refine aEx ?_ | refine aSk ?_ | refine aRt ?_ | refine aLk ?_ | refine aOt ?_); simp only [hwf, go_sem]) | ((with_reducible refine aCd ?_ ?_ (fun hb => ?_) (fun hb => ?_)); (simp only [hwf, go_sem]); (simp only [hwf, go_sem]); all_goals (simp only [hwf, go_sem] at hb; try simp only [bls] at hb)) | ((iterate 6 try ((fail_if_success with_reducible refine hK _ ?_ ?_ ?_); clear hK K)); with_reducible refine hK _ ?_ ?_ ?_; rotate_left; (focus (simp only [hwf, go_sem]; exact rfl)); clear hK K) | ((first | (with_reducible first | refine cA c4 ?_ | refine cD c4 ?_ | refine cO c4 ?_ | refine cR c4 ?_ | refine cG (fun hg => c4) ?_ | refine cH (fun hg => c4) ?_ | refine cM (fun hg => c4) ?_) | (guard_target = CallAt _ _ _ _ _ _ _ _ _ _; refine cA c4 ?_) | (guard_target = DCallAt _ _ _ _ _ _ _ _; refine cD c4 ?_) | (guard_target = GCallAt _ _ _ _ _ _ _ _ _ _ _; refine cG (fun hg => c4) ?_)); simp only [hwf, go_sem]) | (with_reducible refine aGs (fun hg0 => ?_) (fun hg0 => ?_) <;> first | (with_reducible first | exact aF1 hg0 | exact aF2 hg0) | (simp only [hg0, hwf, go_sem])) | (with_reducible refine aNk ?_; intro bnil hnil; try simp only []) | (omega; done) | (intro hv; (try simp only [bls] at hv); (try simp only [bls]); omega) | (intro hg; (simp only [hg, Bool.true_and, true_and, implies_true]; try (intro hg2; simp only [hg2, Bool.not_false, Bool.not_true])); done)))
     all_goals first | omega | skip

   ·have d40 : decide (40 < x.aut.states) = true := decide_eq_true (by omega)
    (refine ACalls.of_body Ty_ok mixed Tryz.func6 rfl (by kernel_rfl) Tryz.ntmps6 (by simp) (congrArg Array.toList Tryz.results6) ?_)
    simp only [slotsOf, It.d]
    (repeat' (first | (with_reducible first | exact True.intro | refine And.intro ?_ ?_ | refine aBl ?_ | ((first | refine aS1 10 [] ?_ | refine aS2 10 [] ?_ | refine aS3 10 [] ?_ | refine aS4 10 [] ?_ | refine aSq 10 [] ?_); intro K hK)) | ((with_reducible first | refine aRg ?_ | refine aEx ?_ | refine aSk ?_ | refine aRt ?_ | refine aLk ?_ | refine aOt ?_); simp only [d6, d40, go_sem]) | ((with_reducible refine aCd ?_ ?_ (fun hb => ?_) (fun hb => ?_)); (simp only [d6, d40, go_sem]); (simp only [d6, d40, go_sem]); all_goals (simp only [d6, d40, go_sem] at hb; try simp only [bls] at hb)) | ((iterate 6 try ((fail_if_success with_reducible refine hK _ ?_ ?_ ?_); clear hK K)); with_reducible refine hK _ ?_ ?_ ?_; rotate_left; (focus (simp only [d6, d40, go_sem]; exact rfl)); clear hK K) | ((first | (with_reducible first | refine cA (by assumption) ?_ | refine cD (by assumption) ?_ | refine cO (by assumption) ?_ | refine cR (by assumption) ?_ | refine cG (fun hg => (by assumption)) ?_ | refine cH (fun hg => (by assumption)) ?_ | refine cM (fun hg => (by assumption)) ?_) | (guard_target = CallAt _ _ _ _ _ _ _ _ _ _; refine cA (by assumption) ?_) | (guard_target = DCallAt _ _ _ _ _ _ _ _; refine cD (by assumption) ?_) | (guard_target = GCallAt _ _ _ _ _ _ _ _ _ _ _; refine cG (fun hg => (by assumption)) ?_)); simp only [d6, d40, go_sem]) | (with_reducible refine aGs (fun hg0 => ?_) (fun hg0 => ?_) <;> first | (with_reducible first | exact aF1 hg0 | exact aF2 hg0) | (simp only [hg0, d6, d40, go_sem])) | (with_reducible refine aNk ?_; intro bnil hnil; try simp only []) | (omega; done) | (intro hv; (try simp only [bls] at hv); (try simp only [bls]); omega) | (intro hg; (simp only [hg, Bool.true_and, true_and, implies_true]; try (intro hg2; simp only [hg2, Bool.not_false, Bool.not_true])); done)))
    all_goals first | omega | skip
  ·rw [Bool.eq_false_iff.2 h2] at f2
   (refine ACalls.of_body Ty_ok mixed Tryz.func6 rfl (by kernel_rfl) Tryz.ntmps6 (by simp) (congrArg Array.toList Tryz.results6) ?_)
   simp only [slotsOf, It.d]
   (repeat' (first | (with_reducible first | exact True.intro | refine And.intro ?_ ?_ | refine aBl ?_ | ((first | refine aS1 10 [] ?_ | refine aS2 10 [] ?_ | refine aS3 10 [] ?_ | refine aS4 10 [] ?_ | refine aSq 10 [] ?_); intro K hK)) | ((with_reducible first | refine aRg ?_ | refine aEx ?_ | refine aSk ?_ | refine aRt ?_ | refine aLk ?_ | refine aOt ?_); simp only [d6, go_sem]) | ((with_reducible refine aCd ?_ ?_ (fun hb => ?_) (fun hb => ?_)); (simp only [d6, go_sem]); (simp only [d6, go_sem]); all_goals (simp only [d6, go_sem] at hb; try simp only [bls] at hb)) | ((iterate 6 try ((fail_if_success with_reducible refine hK _ ?_ ?_ ?_); clear hK K)); with_reducible refine hK _ ?_ ?_ ?_; rotate_left; (focus (simp only [d6, go_sem]; exact rfl)); clear hK K) | ((first | (with_reducible first | refine cA (by assumption) ?_ | refine cD (by assumption) ?_ | refine cO (by assumption) ?_ | refine cR (by assumption) ?_ | refine cG (fun hg => (by assumption)) ?_ | refine cH (fun hg => (by assumption)) ?_ | refine cM (fun hg => (by assumption)) ?_) | (guard_target = CallAt _ _ _ _ _ _ _ _ _ _; refine cA (by assumption) ?_) | (guard_target = DCallAt _ _ _ _ _ _ _ _; refine cD (by assumption) ?_) | (guard_target = GCallAt _ _ _ _ _ _ _ _ _ _ _; refine cG (fun hg => (by assumption)) ?_)); simp only [d6, go_sem]) | (with_reducible refine aGs (fun hg0 => ?_) (fun hg0 => ?_) <;> first | (with_reducible first | exact aF1 hg0 | exact aF2 hg0) | (simp only [hg0, d6, go_sem])) | (with_reducible refine aNk ?_; intro bnil hnil; try simp only []) | (omega; done) | (intro hv; (try simp only [bls] at hv); (try simp only [bls]); omega) | (intro hg; (simp only [hg, Bool.true_and, true_and, implies_true]; try (intro hg2; simp only [hg2, Bool.not_false, Bool.not_true])); done)))
   all_goals first | omega | skip
 ·have d6 : decide (6 < (E.length : Int)) = true := decide_eq_true (by omega)
  (refine ACalls.of_body Ty_ok mixed Tryz.func6 rfl (by kernel_rfl) Tryz.ntmps6 (by simp) (congrArg Array.toList Tryz.results6) ?_)
  simp only [slotsOf, It.d]
  (repeat' (first | (with_reducible first | exact True.intro | refine And.intro ?_ ?_ | refine aBl ?_ | ((first | refine aS1 10 [] ?_ | refine aS2 10 [] ?_ | refine aS3 10 [] ?_ | refine aS4 10 [] ?_ | refine aSq 10 [] ?_); intro K hK)) | ((with_reducible first | refine aRg ?_ | refine aEx ?_ | refine aSk ?_ | refine aRt ?_ | refine aLk ?_ | refine aOt ?_); simp only [d6, go_sem]) | ((with_reducible refine aCd ?_ ?_ (fun hb => ?_) (fun hb => ?_)); (simp only [d6, go_sem]); (simp only [d6, go_sem]); all_goals (simp only [d6, go_sem] at hb; try simp only [bls] at hb)) | ((iterate 6 try ((fail_if_success with_reducible refine hK _ ?_ ?_ ?_); clear hK K)); with_reducible refine hK _ ?_ ?_ ?_; rotate_left; (focus (simp only [d6, go_sem]; exact rfl)); clear hK K) | ((first | (with_reducible first | refine cA (by assumption) ?_ | refine cD (by assumption) ?_ | refine cO (by assumption) ?_ | refine cR (by assumption) ?_ | refine cG (fun hg => (by assumption)) ?_ | refine cH (fun hg => (by assumption)) ?_ | refine cM (fun hg => (by assumption)) ?_) | (guard_target = CallAt _ _ _ _ _ _ _ _ _ _; refine cA (by assumption) ?_) | (guard_target = DCallAt _ _ _ _ _ _ _ _; refine cD (by assumption) ?_) | (guard_target = GCallAt _ _ _ _ _ _ _ _ _ _ _; refine cG (fun hg => (by assumption)) ?_)); simp only [d6, go_sem]) | (with_reducible refine aGs (fun hg0 => ?_) (fun hg0 => ?_) <;> first | (with_reducible first | exact aF1 hg0 | exact aF2 hg0) | (simp only [hg0, d6, go_sem])) | (with_reducible refine aNk ?_; intro bnil hnil; try simp only []) | (omega; done) | (intro hv; (try simp only [bls] at hv); (try simp only [bls]); omega) | (intro hg; (simp only [hg, Bool.true_and, true_and, implies_true]; try (intro hg2; simp only [hg2, Bool.not_false, Bool.not_true])); done)))
  all_goals first | omega | skip
end Go.Proofs.YtkjnjkdcpbgabaaGreatDoor
