/-
 Contracts of chapter 51: prevention's check, the constraint of a set of places, comparing results.
-/
import Derived.Test.YtlpllbbjmbbfnaaGreatDoorQF
set_option linter.unusedSimpArgs false
set_option linter.unusedVariables false
namespace Go.Proofs.YtlpllbbjmbbfnaaGreatDoor
open Go.Eng Go.RowKit
/-! errors -/
def prE (n : Net) (u : List Int) : Int := if netE n ≠ 0 then netE n else checkSet u n.trs.length
theorem prE_ok {n : Net} {u : List Int} (h : prE n u = 0) : netE n = 0 ∧ checkSet u n.trs.length = 0 := by
 unfold prE at h
 split at h
 ·rename_i h1; exact absurd h h1
 ·exact ⟨by omega, h⟩
theorem prCheck_c (n : Net) (u : List Int) (hf : n.Fits) (hul : u.length ≤ 1000000) : ACalls Tryz.prog 33 [.agg n.d, .one (.list (ints u))] (.one (.int .i64 (prE n u))) [] := by
 have h1 := netCheck_c n hf
 have h2 := CheckSet_c u n.trs.length (by omega)
 have ht := hf.trs
 simp only [Net.d] at h1
 (refine ACalls.of_body Ty_ok mixed Tryz.func33 rfl (by kernel_rfl) Tryz.ntmps33 (by simp) (congrArg Array.toList Tryz.results33) ?_)
 simp only [slotsOf, Net.d]
 (repeat' (first | (with_reducible first | exact True.intro | refine And.intro ?_ ?_ | refine aBl ?_ | (refine aS 6 [] ?_; intro K hK)) | ((with_reducible first | refine aGo ?_); simp only [go_sem]) | ((with_reducible refine aCd ?_ ?_ (fun hb => ?_) (fun hb => ?_)); (iterate 2 simp only [go_sem]); all_goals (simp only [go_sem] at hb; try simp only [bls] at hb)) | ((iterate 6 try ((fail_if_success with_reducible refine hK _ ?_ ?_ ?_); clear hK K)); with_reducible refine hK _ ?_ ?_ ?_; rotate_left; (focus (simp only [go_sem]; exact rfl)); clear hK K) | ((first | (with_reducible first | refine xA ?_ | refine xD ?_ | refine xO ?_ | refine xR ?_ | refine xG ?_ | refine xH ?_ | refine xM ?_) | ((with_reducible refine gA ?_); refine xA ?_) | ((with_reducible refine gD ?_); refine xD ?_) | ((with_reducible refine gG ?_); refine xG ?_)); simp only [go_sem]) | (with_reducible refine aGs (fun hg0 => ?_) (fun hg0 => ?_) <;> first | (with_reducible first | exact aF1 hg0 | exact aF2 hg0) | (simp only [hg0, go_sem])) | (with_reducible refine aNk ?_; intro bnil hnil; try simp only []) | exact aZ | fail))
 all_goals first | omega | skip
 ·rw [prE, if_pos hb]
 ·rw [prE, if_neg (by omega)]
/-! the constraint of a set -/
set_option maxHeartbeats 4000000 in
theorem kept_c (n : Net) (s : List Int) (hf : n.Fits) (hs : ∀ x ∈ s, 0 ≤ x ∧ x < n.init.length) (hn : s.length ≤ 1000000) : ACalls Tryz.prog 40 [.agg n.d, .one (.list (ints s))] (.agg (kepC n.init.length s).d) [] := by
 have hi := hf.init
 (refine ACalls.of_body Ty_ok mixed Tryz.func40 rfl (by kernel_rfl) Tryz.ntmps40 (by simp) (congrArg Array.toList Tryz.results40) ?_)
 simp only [slotsOf, Net.d, Con.d, kepC]
 (repeat' (first | (with_reducible first | exact True.intro | refine And.intro ?_ ?_ | refine aBl ?_ | (refine aS 8 [14, 13, 15] ?_; intro K hK)) | ((with_reducible first | refine aGo ?_); simp only [go_sem]) | ((with_reducible refine aCd ?_ ?_ (fun hb => ?_) (fun hb => ?_)); (iterate 2 simp only [go_sem]); all_goals (simp only [go_sem] at hb; try simp only [bls] at hb)) | ((iterate 6 try ((fail_if_success with_reducible refine hK _ ?_ ?_ ?_); clear hK K)); with_reducible refine hK _ ?_ ?_ ?_; rotate_left; (focus (simp only [go_sem]; exact rfl)); clear hK K) | (with_reducible refine aGs (fun hg0 => ?_) (fun hg0 => ?_) <;> first | (with_reducible first | exact aF1 hg0 | exact aF2 hg0) | (simp only [hg0, go_sem])) | (with_reducible refine aNk ?_; intro bnil hnil; try simp only []) | exact aZ | fail))
 all_goals first | omega | skip
 refine awp_loop _ (by simp only [go_sem]; rfl) Nat (fun k => k ≤ s.length) (fun k => [(15, .one (.int .i64 k))]) (fun k _ => [.var 33 [.list (ints n.init), .list (trsD n.trs)], .var 38 [.nil, .int .i64 0], .row 3 1 (ints (facK n.init.length (s.take k))), .var 38 [.own 2, .int .i64 (-1)]]) (fun k => s.length - k) 0 (by omega) ?_ ?_
 ·have e0 : ints (facK n.init.length (s.take 0)) = List.replicate n.init.length [.int .i64 0] := by rw [List.take_zero, facK_nil]; simp [ints]
  rw [e0]
  (simp only [SubF, go_sem]; (try simp only [go_sem]); repeat' (first | exact True.intro | with_reducible refine And.intro ?_ ?_ | rfl | omega))
 rintro k hk L hL
 have hfl := facK_length n.init.length (s.take k)
 by_cases hlt : k < s.length
 ·have hx := hs (s.getD k 0) (getD_mem s k 0 hlt)
  have e1 := facK_set n.init.length (s.take k) (s.getD k 0) hx
  rw [← take_succ_getD s k 0 hlt] at e1
  have hrow := ints_at (l := facK n.init.length (s.take k)) (k := (s.getD k 0).toNat) (by omega)
  (simp only [go_sem] at hL ⊢)
  (repeat' (first | (with_reducible first | exact True.intro | refine And.intro ?_ ?_ | refine aBl ?_ | (refine aS 8 [14, 13, 15] ?_; intro K hK)) | ((with_reducible first | refine aGo ?_); simp only [hrow, go_sem]) | ((with_reducible refine aCd ?_ ?_ (fun hb => ?_) (fun hb => ?_)); (iterate 2 simp only [hrow, go_sem]); all_goals (simp only [hrow, go_sem] at hb; try simp only [bls] at hb)) | ((iterate 6 try ((fail_if_success with_reducible refine hK _ ?_ ?_ ?_); clear hK K)); with_reducible refine hK _ ?_ ?_ ?_; rotate_left; (focus (simp only [hrow, go_sem]; exact rfl)); clear hK K) | (with_reducible refine aGs (fun hg0 => ?_) (fun hg0 => ?_) <;> first | (with_reducible first | exact aF1 hg0 | exact aF2 hg0) | (simp only [hg0, hrow, go_sem])) | (with_reducible refine aNk ?_; intro bnil hnil; try simp only []) | exact aZ | fail))
  all_goals first | omega | skip
  refine hL _ (k + 1) (by omega) ?_ (by omega)
  rw [← e1, ← ints_set]
  (simp only [SubF, go_sem]; (try simp only [go_sem]); repeat' (first | exact True.intro | with_reducible refine And.intro ?_ ?_ | rfl | omega))
 ·rw [List.take_of_length_le (by omega : s.length ≤ k)]
  (simp only [go_sem] at hL ⊢)
  (repeat' (first | (with_reducible first | exact True.intro | refine And.intro ?_ ?_ | refine aBl ?_ | (refine aS 8 [14, 13, 15] ?_; intro K hK)) | ((with_reducible first | refine aGo ?_); simp only [go_sem]) | ((with_reducible refine aCd ?_ ?_ (fun hb => ?_) (fun hb => ?_)); (iterate 2 simp only [go_sem]); all_goals (simp only [go_sem] at hb; try simp only [bls] at hb)) | ((iterate 6 try ((fail_if_success with_reducible refine hK _ ?_ ?_ ?_); clear hK K)); with_reducible refine hK _ ?_ ?_ ?_; rotate_left; (focus (simp only [go_sem]; exact rfl)); clear hK K) | (with_reducible refine aGs (fun hg0 => ?_) (fun hg0 => ?_) <;> first | (with_reducible first | exact aF1 hg0 | exact aF2 hg0) | (simp only [hg0, go_sem])) | (with_reducible refine aNk ?_; intro bnil hnil; try simp only []) | exact aZ | fail))
  all_goals first | omega | skip
/-! comparing -/
theorem prSame_c (a b : Con) (hn : a.fac.length ≤ 1000000) : ACalls Tryz.prog 57 [.agg a.d, .agg b.d] (.one (.bool (decide (a = b)))) [] := by
 have h1 := EqualInts_c a.fac b.fac hn
 (refine ACalls.of_body Ty_ok mixed Tryz.func57 rfl (by kernel_rfl) Tryz.ntmps57 (by simp) (congrArg Array.toList Tryz.results57) ?_)
 simp only [slotsOf, Con.d]
 (repeat' (first | (with_reducible first | exact True.intro | refine And.intro ?_ ?_ | refine aBl ?_ | (refine aS 5 [] ?_; intro K hK)) | ((with_reducible first | refine aGo ?_); simp only [go_sem]) | ((with_reducible refine aCd ?_ ?_ (fun hb => ?_) (fun hb => ?_)); (iterate 2 simp only [go_sem]); all_goals (simp only [go_sem] at hb; try simp only [bls] at hb)) | ((iterate 6 try ((fail_if_success with_reducible refine hK _ ?_ ?_ ?_); clear hK K)); with_reducible refine hK _ ?_ ?_ ?_; rotate_left; (focus (simp only [go_sem]; exact rfl)); clear hK K) | ((first | (with_reducible first | refine xA ?_ | refine xD ?_ | refine xO ?_ | refine xR ?_ | refine xG ?_ | refine xH ?_ | refine xM ?_) | ((with_reducible refine gA ?_); refine xA ?_) | ((with_reducible refine gD ?_); refine xD ?_) | ((with_reducible refine gG ?_); refine xG ?_)); simp only [go_sem]) | (with_reducible refine aGs (fun hg0 => ?_) (fun hg0 => ?_) <;> first | (with_reducible first | exact aF1 hg0 | exact aF2 hg0) | (simp only [hg0, go_sem])) | (with_reducible refine aNk ?_; intro bnil hnil; try simp only []) | exact aZ | fail))
 obtain ⟨a1, a2⟩ := a
 obtain ⟨b1, b2⟩ := b
 rw [Bool.eq_iff_iff]
 simp
structure Stp.Fits (x : Stp) : Prop where
 set : x.set.length ≤ 1000000
 fac : x.con.fac.length ≤ 1000000
def resD (st : List Stp) (n : Net) : List D := [.list (stpD st), .list (ints n.init), .list (trsD n.trs)]
end Go.Proofs.YtlpllbbjmbbfnaaGreatDoor
