/-
 Contracts: transitions that raise a sum; what is admissible.
-/
import Derived.Test.YtkjllcmpjghmkaaGreatDoorN6
import Derived.Test.YtkjllcmpjghmkaaGreatDoorWA
set_option linter.unusedSimpArgs false
set_option linter.unusedVariables false
namespace Go.Proofs.YtkjllcmpjghmkaaGreatDoor
open Go.Eng Go.RowKit
def z5m (l : List Int) (t : Int) : Bool := decide (0 < l.getD t.toNat 0)
def z1u (n : Net) (c : Con) (u : List Int) : Int := if z0E (z5m (effL n c)) 0 u < 0 then -1 else u.getD (z0E (z5m (effL n c)) 0 u).toNat 0
theorem zdk (l : List Int) (t : Int) (h0 : 0 ≤ t) (h1 : t < l.length) : ACalls Tryz.prog 118 [.one (.int .i64 t), .one (.ref [.list (ints l)])] (.one (.bool (z5m l t))) [] := by
 (refine ACalls.of_body Ty_ok mixed Tryz.func118 rfl (by kernel_rfl) Tryz.ntmps118 (by simp) (congrArg Array.toList Tryz.results118) ?_)
 simp only [z00]
 (repeat' (first | (with_reducible first | refine And.intro ?_ ?_ | (refine aS 4 [] ?_; intro K hK)) | ((with_reducible refine aGo ?_); simp only [go_sem]) | ((iterate 6 try ((fail_if_success with_reducible refine hK _ ?_ ?_ ?_); clear hK K)); with_reducible refine hK _ ?_ ?_ ?_; rotate_left; (focus (simp only [go_sem]; exact rfl)); clear hK K) | exact aZ | fail))
 rfl
theorem z6J {α : Type} (p : α → Bool) : ∀ (l : List α) (k : Nat), 0 ≤ z0E p k l → k ≤ z0E p k l ∧ z0E p k l < k + l.length
 | [], k, h => by simp [z0E] at h
 | e :: l, k, h => by
  rw [z0E] at h ⊢
  split
  ·simp only [List.length_cons]; omega
  ·rename_i hp
   rw [if_neg hp] at h
   have := z6J p l (k + 1) h
   simp only [List.length_cons]
   omega
set_option maxHeartbeats 4000000 in
theorem z9K (n : Net) (c : Con) (u : List Int) (hn : NetOk n) (hl : c.fac.length = n.init.length) (hf : Sm 16 c.fac) (hu : ∀ x ∈ u, 0 ≤ x ∧ x < n.trs.length) (hul : u.length ≤ 1000000) :
  ACalls Tryz.prog 80 [.agg n.d, .agg c.d, .one (.list (ints u))] (.one (.int .i64 (z1u n c u))) [] := by
 have h1 := z6Y n c hn hl hf
 have hEl := z6Z n c
 simp only [Net.d, Con.d] at h1
 have h2 := z3k u 118 [.ref [.list (ints (effL n c))]] (z5m (effL n c)) hul (z42 _) (fun e he => zdk (effL n c) e (hu e he).1 (by rw [hEl]; exact (hu e he).2))
 have h3 := z6J (z5m (effL n c)) u 0
 (refine ACalls.of_body Ty_ok mixed Tryz.func80 rfl (by kernel_rfl) Tryz.ntmps80 (by simp) (congrArg Array.toList Tryz.results80) ?_)
 simp only [z00, Net.d, Con.d]
 (repeat' (first | (with_reducible first | refine And.intro ?_ ?_ | (refine aS 9 [] ?_; intro K hK)) | ((with_reducible refine aGo ?_); simp only [go_sem]) | ((with_reducible refine aCd ?_ ?_ (fun hb => ?_) (fun hb => ?_)); (iterate 2 simp only [go_sem]); all_goals (simp only [go_sem] at hb; try simp only [bls] at hb)) | ((iterate 6 try ((fail_if_success with_reducible refine hK _ ?_ ?_ ?_); clear hK K)); with_reducible refine hK _ ?_ ?_ ?_; rotate_left; (focus (simp only [go_sem]; exact rfl)); clear hK K) | ((with_reducible refine xA ?_); simp only [go_sem]) | exact aZ | fail))
 ·rw [z1u, if_pos hb]
 ·rw [z1u, if_neg (by omega)]
def chkE (n : Net) (c : Con) (u : List Int) : Int := if conE n c ≠ 0 then conE n c else z0i u n.trs.length
theorem z82 (n : Net) (c : Con) (u : List Int) (hn : n.Fits) (hc : c.fac.length ≤ 1000000) (hul : u.length ≤ 1000000) : ACalls Tryz.prog 77 [.agg n.d, .agg c.d, .one (.list (ints u))] (.one (.int .i64 (chkE n c u))) [] := by
 have h1 := z3v n c hn hc
 have h2 := z5c u n.trs.length (by omega)
 simp only [Net.d, Con.d] at h1
 (refine ACalls.of_body Ty_ok mixed Tryz.func77 rfl (by kernel_rfl) Tryz.ntmps77 (by simp) (congrArg Array.toList Tryz.results77) ?_)
 simp only [z00, Net.d, Con.d]
 (repeat' (first | (with_reducible (refine aS 8 [] ?_; intro K hK)) | ((with_reducible refine aGo ?_); simp only [go_sem]) | ((with_reducible refine aCd ?_ ?_ (fun hb => ?_) (fun hb => ?_)); (iterate 2 simp only [go_sem]); all_goals (simp only [go_sem] at hb; try simp only [bls] at hb)) | ((iterate 6 try ((fail_if_success with_reducible refine hK _ ?_ ?_ ?_); clear hK K)); with_reducible refine hK _ ?_ ?_ ?_; rotate_left; (focus (simp only [go_sem]; exact rfl)); clear hK K) | ((with_reducible refine xA ?_); simp only [go_sem]) | fail))
 ·rw [chkE, if_pos hb]
 ·rw [chkE, if_neg (by omega)]
theorem zi9 {n : Net} {c : Con} {u : List Int} (h : chkE n c u = 0) : conE n c = 0 ∧ ∀ x ∈ u, 0 ≤ x ∧ x < n.trs.length := by
 unfold chkE at h
 split at h
 ·rename_i h1; exact absurd h h1
 ·exact ⟨by omega, zav _ u none h⟩
set_option maxHeartbeats 4000000 in
theorem zaS (n : Net) (c : Con) (u : List Int) (hn : n.Fits) (hc : c.fac.length ≤ 1000000) (hul : u.length ≤ 1000000) :
  ACalls Tryz.prog 58 [.agg n.d, .agg c.d, .one (.list (ints u))] (.tup [.one (.int .i64 (if chkE n c u ≠ 0 then 0 else max (z1u n c u) 0)), .one (.bool (decide (chkE n c u = 0 ∧ z1u n c u < 0))), .one (.int .i64 (chkE n c u))]) [] := by
 have h1 := z82 n c u hn hc hul
 simp only [Net.d, Con.d] at h1
 by_cases h0 : chkE n c u = 0
 ·obtain ⟨q1, q2⟩ := zi9 h0
  obtain ⟨r1, r2, r3, _⟩ := z1v q1
  have h2 := z9K n c u (z0K r1) r2 r3 q2 hul
  simp only [Net.d, Con.d] at h2
  rw [h0] at h1 ⊢
  (refine ACalls.of_body Ty_ok mixed Tryz.func58 rfl (by kernel_rfl) Tryz.ntmps58 (by simp) (congrArg Array.toList Tryz.results58) ?_)
  simp only [z00, Net.d, Con.d]
  (repeat' (first | (with_reducible first | refine And.intro ?_ ?_ | (refine aS 11 [] ?_; intro K hK)) | ((with_reducible refine aGo ?_); simp only [go_sem]) | ((with_reducible refine aCd ?_ ?_ (fun hb => ?_) (fun hb => ?_)); (iterate 2 simp only [go_sem]); all_goals (simp only [go_sem] at hb; try simp only [bls] at hb)) | ((iterate 6 try ((fail_if_success with_reducible refine hK _ ?_ ?_ ?_); clear hK K)); with_reducible refine hK _ ?_ ?_ ?_; rotate_left; (focus (simp only [go_sem]; exact rfl)); clear hK K) | ((with_reducible refine xA ?_); simp only [go_sem]) | exact aZ | fail))
  all_goals first | omega | skip
  all_goals simp
  all_goals omega
 ·(refine ACalls.of_body Ty_ok mixed Tryz.func58 rfl (by kernel_rfl) Tryz.ntmps58 (by simp) (congrArg Array.toList Tryz.results58) ?_)
  simp only [z00, Net.d, Con.d]
  (repeat' (first | (with_reducible first | refine And.intro ?_ ?_ | (refine aS 11 [] ?_; intro K hK)) | ((with_reducible refine aGo ?_); simp only [go_sem]) | ((with_reducible refine aCd ?_ ?_ (fun hb => ?_) (fun hb => ?_)); (iterate 2 simp only [go_sem]); all_goals (simp only [go_sem] at hb; try simp only [bls] at hb)) | ((iterate 6 try ((fail_if_success with_reducible refine hK _ ?_ ?_ ?_); clear hK K)); with_reducible refine hK _ ?_ ?_ ?_; rotate_left; (focus (simp only [go_sem]; exact rfl)); clear hK K) | ((with_reducible refine xA ?_); simp only [go_sem]) | exact aZ | fail))
  all_goals first | omega | skip
  all_goals simp [h0]
end Go.Proofs.YtkjllcmpjghmkaaGreatDoor
