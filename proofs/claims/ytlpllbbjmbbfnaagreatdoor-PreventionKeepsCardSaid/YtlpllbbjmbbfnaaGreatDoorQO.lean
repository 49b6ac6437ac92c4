/-
 Chapter 51: the statement PreventionKeeps.
-/
import Derived.Test.YtlpllbbjmbbfnaaGreatDoorQN
set_option linter.unusedSimpArgs false
set_option linter.unusedVariables false
namespace Go.Proofs.YtlpllbbjmbbfnaaGreatDoor
open Go.Eng Go.RowKit
theorem none0_c : ACalls Tryz.prog 23 [.agg res0] (.one (.bool true)) [] := none_c [] ⟨[], []⟩ (by decide) (by decide) (by decide)
theorem pr_calls {n : Net} {u : List Int} (h : TaskOk n u) : ACalls Tryz.prog 16 [.agg n.d, .one (.list (ints u))] (pvR (prevR n u)) [] ∧ ACalls Tryz.prog 22 [.agg n.d, .one (.list (ints u))] (exR (prevR n u)) [] := by
 have e : prO n u = prevR n u := by rw [prO, if_neg (by rw [h.chk]; decide)]
 have hP := Prevent_c n u h.ok.fits (fun _ => h.ne) (by have := h.len; omega)
 have hX := Explain_c n u h.ok.fits (fun _ => h.ne) (by have := h.len; omega)
 rw [e] at hP hX
 exact ⟨hP, hX⟩
set_option maxRecDepth 100000 in
set_option maxHeartbeats 16000000 in
theorem PreventionKeeps_c (s : Nat → Int) (hs : Bytes s) (b : Bool) (q : Nat) (hq : q < 65536) : ACalls Tryz.prog 5 [.agg (bytesD 37 s ++ [.bool b, .int .u16 q])] (.one (.bool true)) [] := by
 have hKn := known_c
 have hT := task_ok s hs b q
 have hO := open_c s hs b q hq (by have := hT.ok.trs; omega)
 generalize taskU s b q = u at *
 generalize chooseN s b = n at *
 have hok := hT.ok
 have hi := hok.init
 have hF := fair_c n hok.fits hT.ne
 have hD := Deadlock_c n hok.fits hT.ne
 have hE := netEqual_c n n hok.fits
 rw [decide_eq_true rfl] at hE
 obtain ⟨hP, hX⟩ := pr_calls hT
 have hNo := none0_c
 have hnz := fun e => bnd_ne (n := n) (e := e)
 have hperr := fun e => prevR_err (n := n) (u := u) (e := e) hi
 have hplive := fun nd ed => prevR_live (n := n) (u := u) (nd := nd) (ed := ed) hi
 have hpstep := fun m st nd ed => prevR_step (n := n) (m := m) (u := u) (st := st) (nd := nd) (ed := ed) hi
 have hperrs := fun e => prevR_errs (n := n) (u := u) (e := e) (netE_of hok)
 have htl := task_len s [.bool b, .int .u16 q]
 simp only [List.length_cons, List.length_nil, Nat.reduceAdd] at htl
 simp only [Net.d] at hO hF hD hE hP hX
 cases hfb : fairB n with
 | false =>
  rw [hfb] at hF
  (refine ACalls.of_body Ty_ok mixed Tryz.func5 rfl (by kernel_rfl) Tryz.ntmps5 (by simp) (congrArg Array.toList Tryz.results5) ?_)
  simp only [slotsOf]
  (repeat' (first | (with_reducible first | exact True.intro | refine And.intro ?_ ?_ | refine aBl ?_ | ((first | refine aS1 5 [7, 6, 8, 10, 11, 12, 13, 9] ?_ | refine aS2 5 [7, 6, 8, 10, 11, 12, 13, 9] ?_ | refine aS3 5 [7, 6, 8, 10, 11, 12, 13, 9] ?_ | refine aS4 5 [7, 6, 8, 10, 11, 12, 13, 9] ?_ | refine aSq 5 [7, 6, 8, 10, 11, 12, 13, 9] ?_); intro K hK)) | ((with_reducible first | refine aRg ?_ | refine aEx ?_ | refine aSk ?_ | refine aRt ?_ | refine aLk ?_ | refine aOt ?_); simp only [htl, go_sem]) | ((with_reducible refine aCd ?_ ?_ (fun hb => ?_) (fun hb => ?_)); (simp only [htl, go_sem]); (simp only [htl, go_sem]); all_goals (simp only [htl, go_sem] at hb; try simp only [bls] at hb)) | ((iterate 6 try ((fail_if_success with_reducible refine hK _ ?_ ?_ ?_); clear hK K)); with_reducible refine hK _ ?_ ?_ ?_; rotate_left; (focus (simp only [htl, go_sem]; exact rfl)); clear hK K) | ((first | (with_reducible first | refine cA (by assumption) ?_ | refine cD (by assumption) ?_ | refine cO (by assumption) ?_ | refine cR (by assumption) ?_ | refine cG (fun hg => (by assumption)) ?_ | refine cH (fun hg => (by assumption)) ?_ | refine cM (fun hg => (by assumption)) ?_) | (guard_target = CallAt _ _ _ _ _ _ _ _ _ _; refine cA (by assumption) ?_) | (guard_target = DCallAt _ _ _ _ _ _ _ _; refine cD (by assumption) ?_) | (guard_target = GCallAt _ _ _ _ _ _ _ _ _ _ _; refine cG (fun hg => (by assumption)) ?_)); simp only [htl, go_sem]) | (with_reducible refine aGs (fun hg0 => ?_) (fun hg0 => ?_) <;> first | (with_reducible first | exact aF1 hg0 | exact aF2 hg0) | (simp only [hg0, htl, go_sem])) | (with_reducible refine aNk ?_; intro bnil hnil; try simp only []) | (omega; done) | (intro hv; (try simp only [bls] at hv); (try simp only [bls]); omega) | (intro hg; (simp only [hg, Bool.true_and, true_and, implies_true]; try (intro hg2; simp only [hg2, Bool.not_false, Bool.not_true])); done)))
  all_goals first | omega | skip
 | true =>
  rw [hfb] at hF
  cases hbn : bndF n with
  | inl e =>
   have hnz := hnz e hbn
   rw [hperr e hbn] at hP hX
   rw [hbn] at hD
   simp only [dlR, pvR, exR, res0] at hD hP hX hNo
   (refine ACalls.of_body Ty_ok mixed Tryz.func5 rfl (by kernel_rfl) Tryz.ntmps5 (by simp) (congrArg Array.toList Tryz.results5) ?_)
   simp only [slotsOf]
   (repeat' (first | (with_reducible first | exact True.intro | refine And.intro ?_ ?_ | refine aBl ?_ | ((first | refine aS1 5 [7, 6, 8, 10, 11, 12, 13, 9] ?_ | refine aS2 5 [7, 6, 8, 10, 11, 12, 13, 9] ?_ | refine aS3 5 [7, 6, 8, 10, 11, 12, 13, 9] ?_ | refine aS4 5 [7, 6, 8, 10, 11, 12, 13, 9] ?_ | refine aSq 5 [7, 6, 8, 10, 11, 12, 13, 9] ?_); intro K hK)) | ((with_reducible first | refine aRg ?_ | refine aEx ?_ | refine aSk ?_ | refine aRt ?_ | refine aLk ?_ | refine aOt ?_); simp only [htl, go_sem]) | ((with_reducible refine aCd ?_ ?_ (fun hb => ?_) (fun hb => ?_)); (simp only [htl, go_sem]); (simp only [htl, go_sem]); all_goals (simp only [htl, go_sem] at hb; try simp only [bls] at hb)) | ((iterate 6 try ((fail_if_success with_reducible refine hK _ ?_ ?_ ?_); clear hK K)); with_reducible refine hK _ ?_ ?_ ?_; rotate_left; (focus (simp only [htl, go_sem]; exact rfl)); clear hK K) | ((first | (with_reducible first | refine cA (by assumption) ?_ | refine cD (by assumption) ?_ | refine cO (by assumption) ?_ | refine cR (by assumption) ?_ | refine cG (fun hg => (by assumption)) ?_ | refine cH (fun hg => (by assumption)) ?_ | refine cM (fun hg => (by assumption)) ?_) | (guard_target = CallAt _ _ _ _ _ _ _ _ _ _; refine cA (by assumption) ?_) | (guard_target = DCallAt _ _ _ _ _ _ _ _; refine cD (by assumption) ?_) | (guard_target = GCallAt _ _ _ _ _ _ _ _ _ _ _; refine cG (fun hg => (by assumption)) ?_)); simp only [htl, go_sem]) | (with_reducible refine aGs (fun hg0 => ?_) (fun hg0 => ?_) <;> first | (with_reducible first | exact aF1 hg0 | exact aF2 hg0) | (simp only [hg0, htl, go_sem])) | (with_reducible refine aNk ?_; intro bnil hnil; try simp only []) | (omega; done) | (intro hv; (try simp only [bls] at hv); (try simp only [bls]); omega) | (intro hg; (simp only [hg, Bool.true_and, true_and, implies_true]; try (intro hg2; simp only [hg2, Bool.not_false, Bool.not_true])); done)))
   all_goals first | omega | skip
  | inr r =>
   obtain ⟨nd, ed⟩ := r
   rw [hbn] at hD
   simp only [dlR] at hD
   by_cases hd : 0 ≤ deadFrom n nd 0
   ·rw [if_pos hd] at hD
    generalize pathF nd (deadFrom n nd 0) = W at *
    cases hR : prevR n u with
    | err e =>
     have h3 := hperrs e hR
     rw [hR] at hP hX
     simp only [pvR, exR, res0] at hP hX
     (refine ACalls.of_body Ty_ok mixed Tryz.func5 rfl (by kernel_rfl) Tryz.ntmps5 (by simp) (congrArg Array.toList Tryz.results5) ?_)
     simp only [slotsOf]
     (repeat' (first | (with_reducible first | exact True.intro | refine And.intro ?_ ?_ | refine aBl ?_ | ((first | refine aS1 5 [7, 6, 8, 10, 11, 12, 13, 9] ?_ | refine aS2 5 [7, 6, 8, 10, 11, 12, 13, 9] ?_ | refine aS3 5 [7, 6, 8, 10, 11, 12, 13, 9] ?_ | refine aS4 5 [7, 6, 8, 10, 11, 12, 13, 9] ?_ | refine aSq 5 [7, 6, 8, 10, 11, 12, 13, 9] ?_); intro K hK)) | ((with_reducible first | refine aRg ?_ | refine aEx ?_ | refine aSk ?_ | refine aRt ?_ | refine aLk ?_ | refine aOt ?_); simp only [htl, go_sem]) | ((with_reducible refine aCd ?_ ?_ (fun hb => ?_) (fun hb => ?_)); (simp only [htl, go_sem]); (simp only [htl, go_sem]); all_goals (simp only [htl, go_sem] at hb; try simp only [bls] at hb)) | ((iterate 6 try ((fail_if_success with_reducible refine hK _ ?_ ?_ ?_); clear hK K)); with_reducible refine hK _ ?_ ?_ ?_; rotate_left; (focus (simp only [htl, go_sem]; exact rfl)); clear hK K) | ((first | (with_reducible first | refine cA (by assumption) ?_ | refine cD (by assumption) ?_ | refine cO (by assumption) ?_ | refine cR (by assumption) ?_ | refine cG (fun hg => (by assumption)) ?_ | refine cH (fun hg => (by assumption)) ?_ | refine cM (fun hg => (by assumption)) ?_) | (guard_target = CallAt _ _ _ _ _ _ _ _ _ _; refine cA (by assumption) ?_) | (guard_target = DCallAt _ _ _ _ _ _ _ _; refine cD (by assumption) ?_) | (guard_target = GCallAt _ _ _ _ _ _ _ _ _ _ _; refine cG (fun hg => (by assumption)) ?_)); simp only [htl, go_sem]) | (with_reducible refine aGs (fun hg0 => ?_) (fun hg0 => ?_) <;> first | (with_reducible first | exact aF1 hg0 | exact aF2 hg0) | (simp only [hg0, htl, go_sem])) | (with_reducible refine aNk ?_; intro bnil hnil; try simp only []) | (omega; done) | (intro hv; (try simp only [bls] at hv); (try simp only [bls]); omega) | (intro hg; (simp only [hg, Bool.true_and, true_and, implies_true]; try (intro hg2; simp only [hg2, Bool.not_false, Bool.not_true])); done)))
     all_goals first | omega | skip
    | ok st m =>
     have h3 := hpstep m st nd ed hbn hd hR
     rw [hR] at hP hX
     simp only [pvR, exR, resD] at hP hX
     (refine ACalls.of_body Ty_ok mixed Tryz.func5 rfl (by kernel_rfl) Tryz.ntmps5 (by simp) (congrArg Array.toList Tryz.results5) ?_)
     simp only [slotsOf]
     (repeat' (first | (with_reducible first | exact True.intro | refine And.intro ?_ ?_ | refine aBl ?_ | ((first | refine aS1 5 [7, 6, 8, 10, 11, 12, 13, 9] ?_ | refine aS2 5 [7, 6, 8, 10, 11, 12, 13, 9] ?_ | refine aS3 5 [7, 6, 8, 10, 11, 12, 13, 9] ?_ | refine aS4 5 [7, 6, 8, 10, 11, 12, 13, 9] ?_ | refine aSq 5 [7, 6, 8, 10, 11, 12, 13, 9] ?_); intro K hK)) | ((with_reducible first | refine aRg ?_ | refine aEx ?_ | refine aSk ?_ | refine aRt ?_ | refine aLk ?_ | refine aOt ?_); simp only [htl, go_sem]) | ((with_reducible refine aCd ?_ ?_ (fun hb => ?_) (fun hb => ?_)); (simp only [htl, go_sem]); (simp only [htl, go_sem]); all_goals (simp only [htl, go_sem] at hb; try simp only [bls] at hb)) | ((iterate 6 try ((fail_if_success with_reducible refine hK _ ?_ ?_ ?_); clear hK K)); with_reducible refine hK _ ?_ ?_ ?_; rotate_left; (focus (simp only [htl, go_sem]; exact rfl)); clear hK K) | ((first | (with_reducible first | refine cA (by assumption) ?_ | refine cD (by assumption) ?_ | refine cO (by assumption) ?_ | refine cR (by assumption) ?_ | refine cG (fun hg => (by assumption)) ?_ | refine cH (fun hg => (by assumption)) ?_ | refine cM (fun hg => (by assumption)) ?_) | (guard_target = CallAt _ _ _ _ _ _ _ _ _ _; refine cA (by assumption) ?_) | (guard_target = DCallAt _ _ _ _ _ _ _ _; refine cD (by assumption) ?_) | (guard_target = GCallAt _ _ _ _ _ _ _ _ _ _ _; refine cG (fun hg => (by assumption)) ?_)); simp only [htl, go_sem]) | (with_reducible refine aGs (fun hg0 => ?_) (fun hg0 => ?_) <;> first | (with_reducible first | exact aF1 hg0 | exact aF2 hg0) | (simp only [hg0, htl, go_sem])) | (with_reducible refine aNk ?_; intro bnil hnil; try simp only []) | (omega; done) | (intro hv; (try simp only [bls] at hv); (try simp only [bls]); omega) | (intro hg; (simp only [hg, Bool.true_and, true_and, implies_true]; try (intro hg2; simp only [hg2, Bool.not_false, Bool.not_true])); done)))
     all_goals first | omega | exact decide_eq_true (by omega) | skip
    | dead st m run =>
     rw [hR] at hP hX
     simp only [pvR, exR, res0] at hP hX
     (refine ACalls.of_body Ty_ok mixed Tryz.func5 rfl (by kernel_rfl) Tryz.ntmps5 (by simp) (congrArg Array.toList Tryz.results5) ?_)
     simp only [slotsOf]
     (repeat' (first | (with_reducible first | exact True.intro | refine And.intro ?_ ?_ | refine aBl ?_ | ((first | refine aS1 5 [7, 6, 8, 10, 11, 12, 13, 9] ?_ | refine aS2 5 [7, 6, 8, 10, 11, 12, 13, 9] ?_ | refine aS3 5 [7, 6, 8, 10, 11, 12, 13, 9] ?_ | refine aS4 5 [7, 6, 8, 10, 11, 12, 13, 9] ?_ | refine aSq 5 [7, 6, 8, 10, 11, 12, 13, 9] ?_); intro K hK)) | ((with_reducible first | refine aRg ?_ | refine aEx ?_ | refine aSk ?_ | refine aRt ?_ | refine aLk ?_ | refine aOt ?_); simp only [htl, go_sem]) | ((with_reducible refine aCd ?_ ?_ (fun hb => ?_) (fun hb => ?_)); (simp only [htl, go_sem]); (simp only [htl, go_sem]); all_goals (simp only [htl, go_sem] at hb; try simp only [bls] at hb)) | ((iterate 6 try ((fail_if_success with_reducible refine hK _ ?_ ?_ ?_); clear hK K)); with_reducible refine hK _ ?_ ?_ ?_; rotate_left; (focus (simp only [htl, go_sem]; exact rfl)); clear hK K) | ((first | (with_reducible first | refine cA (by assumption) ?_ | refine cD (by assumption) ?_ | refine cO (by assumption) ?_ | refine cR (by assumption) ?_ | refine cG (fun hg => (by assumption)) ?_ | refine cH (fun hg => (by assumption)) ?_ | refine cM (fun hg => (by assumption)) ?_) | (guard_target = CallAt _ _ _ _ _ _ _ _ _ _; refine cA (by assumption) ?_) | (guard_target = DCallAt _ _ _ _ _ _ _ _; refine cD (by assumption) ?_) | (guard_target = GCallAt _ _ _ _ _ _ _ _ _ _ _; refine cG (fun hg => (by assumption)) ?_)); simp only [htl, go_sem]) | (with_reducible refine aGs (fun hg0 => ?_) (fun hg0 => ?_) <;> first | (with_reducible first | exact aF1 hg0 | exact aF2 hg0) | (simp only [hg0, htl, go_sem])) | (with_reducible refine aNk ?_; intro bnil hnil; try simp only []) | (omega; done) | (intro hv; (try simp only [bls] at hv); (try simp only [bls]); omega) | (intro hg; (simp only [hg, Bool.true_and, true_and, implies_true]; try (intro hg2; simp only [hg2, Bool.not_false, Bool.not_true])); done)))
     all_goals first | omega | skip
   ·rw [if_neg hd] at hD
    have e0 : stpD [] = [] := rfl
    rw [hplive nd ed hbn (by omega)] at hP hX
    simp only [pvR, exR, resD, e0] at hP hX
    (refine ACalls.of_body Ty_ok mixed Tryz.func5 rfl (by kernel_rfl) Tryz.ntmps5 (by simp) (congrArg Array.toList Tryz.results5) ?_)
    simp only [slotsOf]
    (repeat' (first | (with_reducible first | exact True.intro | refine And.intro ?_ ?_ | refine aBl ?_ | ((first | refine aS1 5 [7, 6, 8, 10, 11, 12, 13, 9] ?_ | refine aS2 5 [7, 6, 8, 10, 11, 12, 13, 9] ?_ | refine aS3 5 [7, 6, 8, 10, 11, 12, 13, 9] ?_ | refine aS4 5 [7, 6, 8, 10, 11, 12, 13, 9] ?_ | refine aSq 5 [7, 6, 8, 10, 11, 12, 13, 9] ?_); intro K hK)) | ((with_reducible first | refine aRg ?_ | refine aEx ?_ | refine aSk ?_ | refine aRt ?_ | refine aLk ?_ | refine aOt ?_); simp only [htl, go_sem]) | ((with_reducible refine aCd ?_ ?_ (fun hb => ?_) (fun hb => ?_)); (simp only [htl, go_sem]); (simp only [htl, go_sem]); all_goals (simp only [htl, go_sem] at hb; try simp only [bls] at hb)) | ((iterate 6 try ((fail_if_success with_reducible refine hK _ ?_ ?_ ?_); clear hK K)); with_reducible refine hK _ ?_ ?_ ?_; rotate_left; (focus (simp only [htl, go_sem]; exact rfl)); clear hK K) | ((first | (with_reducible first | refine cA (by assumption) ?_ | refine cD (by assumption) ?_ | refine cO (by assumption) ?_ | refine cR (by assumption) ?_ | refine cG (fun hg => (by assumption)) ?_ | refine cH (fun hg => (by assumption)) ?_ | refine cM (fun hg => (by assumption)) ?_) | (guard_target = CallAt _ _ _ _ _ _ _ _ _ _; refine cA (by assumption) ?_) | (guard_target = DCallAt _ _ _ _ _ _ _ _; refine cD (by assumption) ?_) | (guard_target = GCallAt _ _ _ _ _ _ _ _ _ _ _; refine cG (fun hg => (by assumption)) ?_)); simp only [htl, go_sem]) | (with_reducible refine aGs (fun hg0 => ?_) (fun hg0 => ?_) <;> first | (with_reducible first | exact aF1 hg0 | exact aF2 hg0) | (simp only [hg0, htl, go_sem])) | (with_reducible refine aNk ?_; intro bnil hnil; try simp only []) | (omega; done) | (intro hv; (try simp only [bls] at hv); (try simp only [bls]); omega) | (intro hg; (simp only [hg, Bool.true_and, true_and, implies_true]; try (intro hg2; simp only [hg2, Bool.not_false, Bool.not_true])); done)))
    all_goals first | omega | skip
end Go.Proofs.YtlpllbbjmbbfnaaGreatDoor
