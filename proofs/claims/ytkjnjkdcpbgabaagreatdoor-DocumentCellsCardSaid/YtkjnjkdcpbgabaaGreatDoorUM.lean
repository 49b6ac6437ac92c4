/-
 Chapter 23: the law's in, shuffled.
-/
import Derived.Test.YtkjnjkdcpbgabaaGreatDoorUF
set_option linter.unusedSimpArgs false
set_option linter.unusedVariables false
namespace Go.Proofs.YtkjnjkdcpbgabaaGreatDoor
open Go.Eng Go.RowKit
def strsD (l : List (List UInt8)) : List (List D) := l.map fun s => [.str s]
theorem strs_length (l : List (List UInt8)) : (strsD l).length = l.length := by simp [strsD]
theorem strs_getD (l : List (List UInt8)) (k : Nat) : (strsD l).getD k [.str []] = [.str (l.getD k [])] := by
 simp only [strsD, List.getD, List.getElem?_map]
 cases l[k]? <;> rfl
theorem strs_sz (l : List (List UInt8)) : (∀ r : List D, r ∈ strsD l → r.length = 1) ↔ True := ⟨fun _ => trivial, fun _ r hr => by obtain ⟨e, _, rfl⟩ := List.mem_map.1 hr; rfl⟩
theorem strs_take (l : List (List UInt8)) (k : Nat) : (strsD l).take k = strsD (l.take k) := by simp [strsD]
theorem strs_drop (l : List (List UInt8)) (k : Nat) : (strsD l).drop k = strsD (l.drop k) := by simp [strsD]
theorem strs_append (xs ys : List (List UInt8)) : strsD xs ++ strsD ys = strsD (xs ++ ys) := by simp [strsD]
attribute [go_sem] strs_length strs_getD strs_sz strs_take strs_drop
set_option maxHeartbeats 4000000 in
theorem in_c (l : List (List UInt8)) (s : List UInt8) (hl : l.length ≤ 1000000) : ACalls Tryz.prog 27 [.one (.list (strsD l)), .one (.str s)] (.one (.bool (decide (s ∈ l)))) [] := by
 generalize hR : decide (s ∈ l) = R at *
 (refine ACalls.of_body Ty_ok mixed Tryz.func27 rfl (by kernel_rfl) Tryz.ntmps27 (by simp) (congrArg Array.toList Tryz.results27) ?_)
 simp only [slotsOf]
 (repeat' (first | (with_reducible first | exact True.intro | refine And.intro ?_ ?_ | refine aBl ?_ | (refine aS 6 [] ?_; intro K hK)) | ((with_reducible first | refine aGo ?_); simp only [go_sem]) | ((with_reducible refine aCd ?_ ?_ (fun hb => ?_) (fun hb => ?_)); (iterate 2 simp only [go_sem]); all_goals (simp only [go_sem] at hb; try simp only [bls] at hb)) | ((iterate 6 try ((fail_if_success with_reducible refine hK _ ?_ ?_ ?_); clear hK K)); with_reducible refine hK _ ?_ ?_ ?_; rotate_left; (focus (simp only [go_sem]; exact rfl)); clear hK K) | (with_reducible refine aGs (fun hg0 => ?_) (fun hg0 => ?_) <;> first | (with_reducible first | exact aF1 hg0 | exact aF2 hg0) | (simp only [hg0, go_sem])) | (with_reducible refine aNk ?_; intro bnil hnil; try simp only []) | exact aZ | fail))
 all_goals first | omega | skip
 refine awp_loop _ (by simp only [go_sem]; rfl) Nat (fun k => k ≤ l.length ∧ R = decide (s ∈ l.drop k)) (fun k => [(5, .one (.int .i64 k))]) (fun _ H => H) (fun k => l.length - k) 0 ⟨by omega, by simpa using hR.symm⟩ ?_ ?_
 ·(simp only [SubF, go_sem]; (try simp only [go_sem]); repeat' (first | exact True.intro | with_reducible refine And.intro ?_ ?_ | rfl | omega))
 rintro k ⟨hk, hres⟩ L hL
 have hq : ((k : Nat) : Int).toNat = k := by omega
 rcases (Decidable.em (k < l.length)) with hlt | hlt
 ·have hlf : decide ((k : Int) < l.length) = true := decide_eq_true (by omega)
  rw [drop_getD l k [] hlt] at hres
  generalize hyd : l.getD k [] = y at *
  (simp only [go_sem] at hL ⊢)
  (repeat' (first | (with_reducible first | exact True.intro | refine And.intro ?_ ?_ | refine aBl ?_ | (refine aS 6 [] ?_; intro K hK)) | ((with_reducible first | refine aGo ?_); simp only [hq, hlf, hyd, go_sem]) | ((with_reducible refine aCd ?_ ?_ (fun hb => ?_) (fun hb => ?_)); (iterate 2 simp only [hq, hlf, hyd, go_sem]); all_goals (simp only [hq, hlf, hyd, go_sem] at hb; try simp only [bls] at hb)) | ((iterate 6 try ((fail_if_success with_reducible refine hK _ ?_ ?_ ?_); clear hK K)); with_reducible refine hK _ ?_ ?_ ?_; rotate_left; (focus (simp only [hq, hlf, hyd, go_sem]; exact rfl)); clear hK K) | (with_reducible refine aGs (fun hg0 => ?_) (fun hg0 => ?_) <;> first | (with_reducible first | exact aF1 hg0 | exact aF2 hg0) | (simp only [hg0, hq, hlf, hyd, go_sem])) | (with_reducible refine aNk ?_; intro bnil hnil; try simp only []) | exact aZ | fail))
  all_goals first | omega | skip
  ·rw [hres, decide_eq_true (List.mem_cons.2 (.inl (Eq.symm (by assumption))))]
  ·have hne : decide (s ∈ y :: l.drop (k + 1)) = decide (s ∈ l.drop (k + 1)) := by
    rw [Bool.eq_iff_iff, decide_eq_true_eq, decide_eq_true_eq, List.mem_cons]
    exact ⟨fun h => h.resolve_left fun e => absurd e.symm (by assumption), .inr⟩
   rw [hne] at hres
   exact hL _ (k + 1) ⟨by omega, hres⟩ (by (simp only [SubF, go_sem]; (try simp only [go_sem]); repeat' (first | exact True.intro | with_reducible refine And.intro ?_ ?_ | rfl | omega))) (by omega)
 have hkk : k = l.length := by omega
 subst hkk
 have hlf : decide ((l.length : Int) < l.length) = false := decide_eq_false (by omega)
 rw [drop_end l _ (Nat.le_refl _)] at hres
 (simp only [go_sem] at hL ⊢)
 (repeat' (first | (with_reducible first | exact True.intro | refine And.intro ?_ ?_ | refine aBl ?_ | (refine aS 6 [] ?_; intro K hK)) | ((with_reducible first | refine aGo ?_); simp only [hlf, go_sem]) | ((with_reducible refine aCd ?_ ?_ (fun hb => ?_) (fun hb => ?_)); (iterate 2 simp only [hlf, go_sem]); all_goals (simp only [hlf, go_sem] at hb; try simp only [bls] at hb)) | ((iterate 6 try ((fail_if_success with_reducible refine hK _ ?_ ?_ ?_); clear hK K)); with_reducible refine hK _ ?_ ?_ ?_; rotate_left; (focus (simp only [hlf, go_sem]; exact rfl)); clear hK K) | (with_reducible refine aGs (fun hg0 => ?_) (fun hg0 => ?_) <;> first | (with_reducible first | exact aF1 hg0 | exact aF2 hg0) | (simp only [hg0, hlf, go_sem])) | (with_reducible refine aNk ?_; intro bnil hnil; try simp only []) | exact aZ | fail))
 all_goals first | omega | skip
 rw [hres]; rfl
end Go.Proofs.YtkjnjkdcpbgabaaGreatDoor
