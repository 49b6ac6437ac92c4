/-
 Contracts of chapter 51: prevention's check, the constraint of a set of places, comparing results.
-/
import Derived.Test.YtlpllbbjmbbfnaaGreatDoorQF
set_option linter.unusedSimpArgs false
set_option linter.unusedVariables false
namespace Go.Proofs.YtlpllbbjmbbfnaaGreatDoor
open Go.Eng Go.RowKit
def prE (n : Net) (u : List Int) : Int := if netE n ≠ 0 then netE n else checkSet u n.trs.length
theorem prE_ok {n : Net} {u : List Int} (h : prE n u = 0) : netE n = 0 ∧ checkSet u n.trs.length = 0 := by
 unfold prE at h
 split at h
 ·rename_i h1; exact absurd h h1
 ·exact ⟨by omega, h⟩
theorem prCheck_c (n : Net) (u : List Int) (hf : n.Fits) (hul : u.length ≤ 1000000) : ACalls Tryz.prog 33 [.agg n.d, .one (.list (ints u))] (.one (.int .i64 (prE n u))) [] := by
 have h1 := netCheck_c n hf
 have h2 := CheckSet_c u n.trs.length (by omega)
 have ht := hf.trs
 simp only [Net.d] at h1
 (refine ACalls.of_body Ty_ok mixed Tryz.func33 rfl (by kernel_rfl) Tryz.ntmps33 (by simp) (congrArg Array.toList Tryz.results33) ?_)
 simp only [slotsOf, Net.d]
 (repeat' (first | (with_reducible first | exact True.intro | refine And.intro ?_ ?_ | refine aBl ?_ | (refine aS 6 [] ?_; intro K hK)) | ((with_reducible first | refine aGo ?_); simp only [go_sem]) | ((with_reducible refine aCd ?_ ?_ (fun hb => ?_) (fun hb => ?_)); (iterate 2 simp only [go_sem]); all_goals (simp only [go_sem] at hb; try simp only [bls] at hb)) | ((iterate 6 try ((fail_if_success with_reducible refine hK _ ?_ ?_ ?_); clear hK K)); with_reducible refine hK _ ?_ ?_ ?_; rotate_left; (focus (simp only [go_sem]; exact rfl)); clear hK K) | ((first | (with_reducible first | refine xA ?_ | refine xD ?_ | refine xO ?_ | refine xR ?_ | refine xG ?_ | refine xH ?_ | refine xM ?_) | ((with_reducible refine gA ?_); refine xA ?_) | ((with_reducible refine gD ?_); refine xD ?_) | ((with_reducible refine gG ?_); refine xG ?_)); simp only [go_sem]) | (with_reducible refine aGs (fun hg0 => ?_) (fun hg0 => ?_) <;> first | (with_reducible first | exact aF1 hg0 | exact aF2 hg0) | (simp only [hg0, go_sem])) | (with_reducible refine aNk ?_; intro bnil hnil; try simp only []) | exact aZ | fail))
 all_goals first | omega | skip
 ·rw [prE, if_pos hb]
 ·rw [prE, if_neg (by omega)]
set_option maxHeartbeats 4000000 in
theorem kept_c (n : Net) (s : List Int) (hf : n.Fits) (hs : ∀ x ∈ s, 0 ≤ x ∧ x < n.init.length) (hn : s.length ≤ 1000000) : ACalls Tryz.prog 40 [.agg n.d, .one (.list (ints s))] (.agg (kepC n.init.length s).d) [] := by
 have hi := hf.init
 (refine ACalls.of_body Ty_ok mixed Tryz.func40 rfl (by kernel_rfl) Tryz.ntmps40 (by simp) (congrArg Array.toList Tryz.results40) ?_)
 simp only [slotsOf, Net.d, Con.d, kepC]
 (repeat' (first | (with_reducible first | exact True.intro | refine And.intro ?_ ?_ | refine aBl ?_ | (refine aS 8 [14, 13, 15] ?_; intro K hK)) | ((with_reducible first | refine aGo ?_); simp only [go_sem]) | ((with_reducible refine aCd ?_ ?_ (fun hb => ?_) (fun hb => ?_)); (iterate 2 simp only [go_sem]); all_goals (simp only [go_sem] at hb; try simp only [bls] at hb)) | ((iterate 6 try ((fail_if_success with_reducible refine hK _ ?_ ?_ ?_); clear hK K)); with_reducible refine hK _ ?_ ?_ ?_; rotate_left; (focus (simp only [go_sem]; exact rfl)); clear hK K) | (with_reducible refine aGs (fun hg0 => ?_) (fun hg0 => ?_) <;> first | (with_reducible first | exact aF1 hg0 | exact aF2 hg0) | (simp only [hg0, go_sem])) | (with_reducible refine aNk ?_; intro bnil hnil; try simp only []) | exact aZ | fail))
 all_goals first | omega | skip
 refine awp_loop _ (by simp only [go_sem]; rfl) Nat (fun k => k ≤ s.length) (fun k => [(15, .one (.int .i64 k))]) (fun k _ => [.var 33 [.list (ints n.init), .list (trsD n.trs)], .var 38 [.nil, .int .i64 0], .row 3 1 (ints (facK n.init.length (s.take k))), .var 38 [.own 2, .int .i64 (-1)]]) (fun k => s.length - k) 0 (by omega) ?_ ?_
 ·have e0 : ints (facK n.init.length (s.take 0)) = List.replicate n.init.length [.int .i64 0] := by rw [List.take_zero, facK_nil]; simp [ints]
  rw [e0]
  (simp only [SubF, go_sem]; (try simp only [go_sem]); repeat' (first | exact True.intro | with_reducible refine And.intro ?_ ?_ | rfl | omega))
 rintro k hk L hL
 have hfl := facK_length n.init.length (s.take k)
 by_cases hlt : k < s.length
 ·have hx := hs (s.getD k 0) (getD_mem s k 0 hlt)
  have e1 := facK_set n.init.length (s.take k) (s.getD k 0) hx
  rw [← take_succ_getD s k 0 hlt] at e1
  have hrow := ints_at (l := facK n.init.length (s.take k)) (k := (s.getD k 0).toNat) (by omega)
  (simp only [go_sem] at hL ⊢)
  (repeat' (first | (with_reducible first | exact True.intro | refine And.intro ?_ ?_ | refine aBl ?_ | (refine aS 8 [14, 13, 15] ?_; intro K hK)) | ((with_reducible first | refine aGo ?_); simp only [hrow, go_sem]) | ((with_reducible refine aCd ?_ ?_ (fun hb => ?_) (fun hb => ?_)); (iterate 2 simp only [hrow, go_sem]); all_goals (simp only [hrow, go_sem] at hb; try simp only [bls] at hb)) | ((iterate 6 try ((fail_if_success with_reducible refine hK _ ?_ ?_ ?_); clear hK K)); with_reducible refine hK _ ?_ ?_ ?_; rotate_left; (focus (simp only [hrow, go_sem]; exact rfl)); clear hK K) | (with_reducible refine aGs (fun hg0 => ?_) (fun hg0 => ?_) <;> first | (with_reducible first | exact aF1 hg0 | exact aF2 hg0) | (simp only [hg0, hrow, go_sem])) | (with_reducible refine aNk ?_; intro bnil hnil; try simp only []) | exact aZ | fail))
  all_goals first | omega | skip
  refine hL _ (k + 1) (by omega) ?_ (by omega)
  rw [← e1, ← ints_set]
  (simp only [SubF, go_sem]; (try simp only [go_sem]); repeat' (first | exact True.intro | with_reducible refine And.intro ?_ ?_ | rfl | omega))
 ·rw [List.take_of_length_le (by omega : s.length ≤ k)]
  (simp only [go_sem] at hL ⊢)
  (repeat' (first | (with_reducible first | exact True.intro | refine And.intro ?_ ?_ | refine aBl ?_ | (refine aS 8 [14, 13, 15] ?_; intro K hK)) | ((with_reducible first | refine aGo ?_); simp only [go_sem]) | ((with_reducible refine aCd ?_ ?_ (fun hb => ?_) (fun hb => ?_)); (iterate 2 simp only [go_sem]); all_goals (simp only [go_sem] at hb; try simp only [bls] at hb)) | ((iterate 6 try ((fail_if_success with_reducible refine hK _ ?_ ?_ ?_); clear hK K)); with_reducible refine hK _ ?_ ?_ ?_; rotate_left; (focus (simp only [go_sem]; exact rfl)); clear hK K) | (with_reducible refine aGs (fun hg0 => ?_) (fun hg0 => ?_) <;> first | (with_reducible first | exact aF1 hg0 | exact aF2 hg0) | (simp only [hg0, go_sem])) | (with_reducible refine aNk ?_; intro bnil hnil; try simp only []) | exact aZ | fail))
  all_goals first | omega | skip
def ktR (n : Net) (s : List Int) : AV := if netE n ≠ 0 then .tup [.agg [.list [], .int .i64 0], .one (.int .i64 (netE n))] else if checkSet s n.init.length ≠ 0 then .tup [.agg [.list [], .int .i64 0], .one (.int .i64 (checkSet s n.init.length))] else .tup [.agg (kepC n.init.length s).d, .one (.int .i64 0)]
theorem Constraint_c (n : Net) (s : List Int) (hf : n.Fits) (hn : s.length ≤ 1000000) : ACalls Tryz.prog 32 [.agg n.d, .one (.list (ints s))] (ktR n s) [] := by
 have h1 := netCheck_c n hf
 have h2 := CheckSet_c s n.init.length (by omega)
 have ht := hf.init
 by_cases hE : netE n = 0
 ·by_cases hS : checkSet s n.init.length = 0
  ·have h3 := kept_c n s hf (checkSet_in hS) hn
   rw [ktR, if_neg (by omega), if_neg (by omega)]
   simp only [Net.d, Con.d] at h1 h3
   (refine ACalls.of_body Ty_ok mixed Tryz.func32 rfl (by kernel_rfl) Tryz.ntmps32 (by simp) (congrArg Array.toList Tryz.results32) ?_)
   simp only [slotsOf, Net.d, Con.d]
   (repeat' (first | (with_reducible first | exact True.intro | refine And.intro ?_ ?_ | refine aBl ?_ | (refine aS 8 [] ?_; intro K hK)) | ((with_reducible first | refine aGo ?_); simp only [hE, hS, go_sem]) | ((with_reducible refine aCd ?_ ?_ (fun hb => ?_) (fun hb => ?_)); (iterate 2 simp only [hE, hS, go_sem]); all_goals (simp only [hE, hS, go_sem] at hb; try simp only [bls] at hb)) | ((iterate 6 try ((fail_if_success with_reducible refine hK _ ?_ ?_ ?_); clear hK K)); with_reducible refine hK _ ?_ ?_ ?_; rotate_left; (focus (simp only [hE, hS, go_sem]; exact rfl)); clear hK K) | ((first | (with_reducible first | refine xA ?_ | refine xD ?_ | refine xO ?_ | refine xR ?_ | refine xG ?_ | refine xH ?_ | refine xM ?_) | ((with_reducible refine gA ?_); refine xA ?_) | ((with_reducible refine gD ?_); refine xD ?_) | ((with_reducible refine gG ?_); refine xG ?_)); simp only [hE, hS, go_sem]) | (with_reducible refine aGs (fun hg0 => ?_) (fun hg0 => ?_) <;> first | (with_reducible first | exact aF1 hg0 | exact aF2 hg0) | (simp only [hg0, hE, hS, go_sem])) | (with_reducible refine aNk ?_; intro bnil hnil; try simp only []) | exact aZ | fail))
   all_goals first | omega | skip
  ·rw [ktR, if_neg (by omega), if_pos hS]
   simp only [Net.d] at h1
   (refine ACalls.of_body Ty_ok mixed Tryz.func32 rfl (by kernel_rfl) Tryz.ntmps32 (by simp) (congrArg Array.toList Tryz.results32) ?_)
   simp only [slotsOf, Net.d]
   (repeat' (first | (with_reducible first | exact True.intro | refine And.intro ?_ ?_ | refine aBl ?_ | (refine aS 8 [] ?_; intro K hK)) | ((with_reducible first | refine aGo ?_); simp only [hE, go_sem]) | ((with_reducible refine aCd ?_ ?_ (fun hb => ?_) (fun hb => ?_)); (iterate 2 simp only [hE, go_sem]); all_goals (simp only [hE, go_sem] at hb; try simp only [bls] at hb)) | ((iterate 6 try ((fail_if_success with_reducible refine hK _ ?_ ?_ ?_); clear hK K)); with_reducible refine hK _ ?_ ?_ ?_; rotate_left; (focus (simp only [hE, go_sem]; exact rfl)); clear hK K) | ((first | (with_reducible first | refine xA ?_ | refine xD ?_ | refine xO ?_ | refine xR ?_ | refine xG ?_ | refine xH ?_ | refine xM ?_) | ((with_reducible refine gA ?_); refine xA ?_) | ((with_reducible refine gD ?_); refine xD ?_) | ((with_reducible refine gG ?_); refine xG ?_)); simp only [hE, go_sem]) | (with_reducible refine aGs (fun hg0 => ?_) (fun hg0 => ?_) <;> first | (with_reducible first | exact aF1 hg0 | exact aF2 hg0) | (simp only [hg0, hE, go_sem])) | (with_reducible refine aNk ?_; intro bnil hnil; try simp only []) | exact aZ | fail))
   all_goals first | omega | skip
 ·rw [ktR, if_pos hE]
  simp only [Net.d] at h1
  (refine ACalls.of_body Ty_ok mixed Tryz.func32 rfl (by kernel_rfl) Tryz.ntmps32 (by simp) (congrArg Array.toList Tryz.results32) ?_)
  simp only [slotsOf, Net.d]
  (repeat' (first | (with_reducible first | exact True.intro | refine And.intro ?_ ?_ | refine aBl ?_ | (refine aS 8 [] ?_; intro K hK)) | ((with_reducible first | refine aGo ?_); simp only [go_sem]) | ((with_reducible refine aCd ?_ ?_ (fun hb => ?_) (fun hb => ?_)); (iterate 2 simp only [go_sem]); all_goals (simp only [go_sem] at hb; try simp only [bls] at hb)) | ((iterate 6 try ((fail_if_success with_reducible refine hK _ ?_ ?_ ?_); clear hK K)); with_reducible refine hK _ ?_ ?_ ?_; rotate_left; (focus (simp only [go_sem]; exact rfl)); clear hK K) | ((first | (with_reducible first | refine xA ?_ | refine xD ?_ | refine xO ?_ | refine xR ?_ | refine xG ?_ | refine xH ?_ | refine xM ?_) | ((with_reducible refine gA ?_); refine xA ?_) | ((with_reducible refine gD ?_); refine xD ?_) | ((with_reducible refine gG ?_); refine xG ?_)); simp only [go_sem]) | (with_reducible refine aGs (fun hg0 => ?_) (fun hg0 => ?_) <;> first | (with_reducible first | exact aF1 hg0 | exact aF2 hg0) | (simp only [hg0, go_sem])) | (with_reducible refine aNk ?_; intro bnil hnil; try simp only []) | exact aZ | fail))
  all_goals first | omega | skip
theorem prSame_c (a b : Con) (hn : a.fac.length ≤ 1000000) : ACalls Tryz.prog 57 [.agg a.d, .agg b.d] (.one (.bool (decide (a = b)))) [] := by
 have h1 := EqualInts_c a.fac b.fac hn
 (refine ACalls.of_body Ty_ok mixed Tryz.func57 rfl (by kernel_rfl) Tryz.ntmps57 (by simp) (congrArg Array.toList Tryz.results57) ?_)
 simp only [slotsOf, Con.d]
 (repeat' (first | (with_reducible first | exact True.intro | refine And.intro ?_ ?_ | refine aBl ?_ | (refine aS 5 [] ?_; intro K hK)) | ((with_reducible first | refine aGo ?_); simp only [go_sem]) | ((with_reducible refine aCd ?_ ?_ (fun hb => ?_) (fun hb => ?_)); (iterate 2 simp only [go_sem]); all_goals (simp only [go_sem] at hb; try simp only [bls] at hb)) | ((iterate 6 try ((fail_if_success with_reducible refine hK _ ?_ ?_ ?_); clear hK K)); with_reducible refine hK _ ?_ ?_ ?_; rotate_left; (focus (simp only [go_sem]; exact rfl)); clear hK K) | ((first | (with_reducible first | refine xA ?_ | refine xD ?_ | refine xO ?_ | refine xR ?_ | refine xG ?_ | refine xH ?_ | refine xM ?_) | ((with_reducible refine gA ?_); refine xA ?_) | ((with_reducible refine gD ?_); refine xD ?_) | ((with_reducible refine gG ?_); refine xG ?_)); simp only [go_sem]) | (with_reducible refine aGs (fun hg0 => ?_) (fun hg0 => ?_) <;> first | (with_reducible first | exact aF1 hg0 | exact aF2 hg0) | (simp only [hg0, go_sem])) | (with_reducible refine aNk ?_; intro bnil hnil; try simp only []) | exact aZ | fail))
 obtain ⟨a1, a2⟩ := a
 obtain ⟨b1, b2⟩ := b
 rw [Bool.eq_iff_iff]
 simp
structure Stp.Fits (x : Stp) : Prop where
 set : x.set.length ≤ 1000000
 fac : x.con.fac.length ≤ 1000000
theorem prEq1_c (a b : Stp) (hf : a.Fits) : ACalls Tryz.prog 56 [.agg a.d, .agg b.d] (.one (.bool (decide (a = b)))) [] := by
 have h1 := EqualInts_c a.set b.set hf.set
 have h2 := prSame_c a.con b.con hf.fac
 simp only [Con.d] at h2
 (refine ACalls.of_body Ty_ok mixed Tryz.func56 rfl (by kernel_rfl) Tryz.ntmps56 (by simp) (congrArg Array.toList Tryz.results56) ?_)
 simp only [slotsOf, Stp.d]
 (repeat' (first | (with_reducible first | exact True.intro | refine And.intro ?_ ?_ | refine aBl ?_ | (refine aS 5 [] ?_; intro K hK)) | ((with_reducible first | refine aGo ?_); simp only [go_sem]) | ((with_reducible refine aCd ?_ ?_ (fun hb => ?_) (fun hb => ?_)); (iterate 2 simp only [go_sem]); all_goals (simp only [go_sem] at hb; try simp only [bls] at hb)) | ((iterate 6 try ((fail_if_success with_reducible refine hK _ ?_ ?_ ?_); clear hK K)); with_reducible refine hK _ ?_ ?_ ?_; rotate_left; (focus (simp only [go_sem]; exact rfl)); clear hK K) | ((first | (with_reducible first | refine xA ?_ | refine xD ?_ | refine xO ?_ | refine xR ?_ | refine xG ?_ | refine xH ?_ | refine xM ?_) | ((with_reducible refine gA ?_); refine xA ?_) | ((with_reducible refine gD ?_); refine xD ?_) | ((with_reducible refine gG ?_); refine xG ?_)); simp only [go_sem]) | (with_reducible refine aGs (fun hg0 => ?_) (fun hg0 => ?_) <;> first | (with_reducible first | exact aF1 hg0 | exact aF2 hg0) | (simp only [hg0, go_sem])) | (with_reducible refine aNk ?_; intro bnil hnil; try simp only []) | exact aZ | fail))
 obtain ⟨a1, a2⟩ := a
 obtain ⟨b1, b2⟩ := b
 rw [Bool.eq_iff_iff]
 simp
set_option maxHeartbeats 4000000 in
theorem EqualFuncStps_c (xs ys : List Stp) (f : FuncId) (hn : xs.length ≤ 1000000) (hp : ∀ a ∈ xs, ∀ b ∈ ys, ACalls Tryz.prog f [.agg a.d, .agg b.d] (.one (.bool (decide (a = b)))) []) :
  ACalls Tryz.prog 55 [.one (.list (stpD xs)), .one (.list (stpD ys)), .one (.clo f [])] (.one (.bool (decide (xs = ys)))) [] := by
 (refine ACalls.of_body Ty_ok mixed Tryz.func55 rfl (by kernel_rfl) Tryz.ntmps55 (by simp) (congrArg Array.toList Tryz.results55) ?_)
 simp only [slotsOf]
 (repeat' (first | (with_reducible first | exact True.intro | refine And.intro ?_ ?_ | refine aBl ?_ | (refine aS 10 [16, 15, 17] ?_; intro K hK)) | ((with_reducible first | refine aGo ?_); simp only [go_sem]) | ((with_reducible refine aCd ?_ ?_ (fun hb => ?_) (fun hb => ?_)); (iterate 2 simp only [go_sem]); all_goals (simp only [go_sem] at hb; try simp only [bls] at hb)) | ((iterate 6 try ((fail_if_success with_reducible refine hK _ ?_ ?_ ?_); clear hK K)); with_reducible refine hK _ ?_ ?_ ?_; rotate_left; (focus (simp only [go_sem]; exact rfl)); clear hK K) | (with_reducible refine aGs (fun hg0 => ?_) (fun hg0 => ?_) <;> first | (with_reducible first | exact aF1 hg0 | exact aF2 hg0) | (simp only [hg0, go_sem])) | (with_reducible refine aNk ?_; intro bnil hnil; try simp only []) | exact aZ | fail))
 ·have : xs ≠ ys := by rintro rfl; omega
  simp [this]
 refine awp_loop _ (by simp only [go_sem]; rfl) Nat (fun k => k ≤ xs.length ∧ decide (xs = ys) = decide (xs.drop k = ys.drop k)) (fun k => [(17, .one (.int .i64 k))]) (fun _ H => H) (fun k => xs.length - k) 0 ⟨by omega, by simp⟩ ?_ ?_
 ·(simp only [SubF, go_sem]; (try simp only [go_sem]); repeat' (first | exact True.intro | with_reducible refine And.intro ?_ ?_ | rfl | omega))
 ·rintro k ⟨hk, hres⟩ L hL
  by_cases hlt : k < xs.length
  ·have hg1 := stp_get hlt [.nil, .nil, .int .i64 0]
   have hg2 := stp_get (l := ys) (k := k) (by omega) [.nil, .nil, .int .i64 0]
   have hc := hp _ (getD_mem xs k Stp.no hlt) _ (getD_mem ys k Stp.no (by omega))
   simp only [Stp.d] at hc
   (simp only [go_sem] at hL ⊢)
   (repeat' (first | (with_reducible first | exact True.intro | refine And.intro ?_ ?_ | refine aBl ?_ | (refine aS 10 [16, 15, 17] ?_; intro K hK)) | ((with_reducible first | refine aGo ?_); simp only [hg1, hg2, go_sem]) | ((with_reducible refine aCd ?_ ?_ (fun hb => ?_) (fun hb => ?_)); (iterate 2 simp only [hg1, hg2, go_sem]); all_goals (simp only [hg1, hg2, go_sem] at hb; try simp only [bls] at hb)) | ((iterate 6 try ((fail_if_success with_reducible refine hK _ ?_ ?_ ?_); clear hK K)); with_reducible refine hK _ ?_ ?_ ?_; rotate_left; (focus (simp only [hg1, hg2, go_sem]; exact rfl)); clear hK K) | ((first | (with_reducible first | refine xA ?_ | refine xD ?_ | refine xO ?_ | refine xR ?_ | refine xG ?_ | refine xH ?_ | refine xM ?_) | ((with_reducible refine gA ?_); refine xA ?_) | ((with_reducible refine gD ?_); refine xD ?_) | ((with_reducible refine gG ?_); refine xG ?_)); simp only [hg1, hg2, go_sem]) | (with_reducible refine aGs (fun hg0 => ?_) (fun hg0 => ?_) <;> first | (with_reducible first | exact aF1 hg0 | exact aF2 hg0) | (simp only [hg0, hg1, hg2, go_sem])) | (with_reducible refine aNk ?_; intro bnil hnil; try simp only []) | exact aZ | fail))
   ·rw [eqq_step (d := Stp.no) (by omega) (by omega) hres, decide_eq_false hb]; rfl
   ·have h1 := eqq_step (d := Stp.no) (by omega) (by omega) hres
    rw [decide_eq_true hb, Bool.true_and] at h1
    exact hL _ (k + 1) ⟨by omega, h1⟩ (by (simp only [SubF, go_sem]; (try simp only [go_sem]); repeat' (first | exact True.intro | with_reducible refine And.intro ?_ ?_ | rfl | omega))) (by omega)
   all_goals first | omega | skip
  ·(simp only [go_sem] at hL ⊢)
   (repeat' (first | (with_reducible first | exact True.intro | refine And.intro ?_ ?_ | refine aBl ?_ | (refine aS 10 [16, 15, 17] ?_; intro K hK)) | ((with_reducible first | refine aGo ?_); simp only [go_sem]) | ((with_reducible refine aCd ?_ ?_ (fun hb => ?_) (fun hb => ?_)); (iterate 2 simp only [go_sem]); all_goals (simp only [go_sem] at hb; try simp only [bls] at hb)) | ((iterate 6 try ((fail_if_success with_reducible refine hK _ ?_ ?_ ?_); clear hK K)); with_reducible refine hK _ ?_ ?_ ?_; rotate_left; (focus (simp only [go_sem]; exact rfl)); clear hK K) | (with_reducible refine aGs (fun hg0 => ?_) (fun hg0 => ?_) <;> first | (with_reducible first | exact aF1 hg0 | exact aF2 hg0) | (simp only [hg0, go_sem])) | (with_reducible refine aNk ?_; intro bnil hnil; try simp only []) | exact aZ | fail))
   all_goals first | omega | skip
   rw [hres, drop_end xs k (by omega), drop_end ys k (by omega)]; rfl
def resD (st : List Stp) (n : Net) : List D := [.list (stpD st), .list (ints n.init), .list (trsD n.trs)]
theorem prEqual_c (st st' : List Stp) (n n' : Net) (hf : n.Fits) (hn : st.length ≤ 1000000) (hs : ∀ x ∈ st, x.Fits) : ACalls Tryz.prog 26 [.agg (resD st n), .agg (resD st' n')] (.one (.bool (decide (st = st' ∧ n = n')))) [] := by
 have h1 := netEqual_c n n' hf
 have h2 := EqualFuncStps_c st st' 56 hn fun a ha b _ => prEq1_c a b (hs a ha)
 simp only [Net.d] at h1
 (refine ACalls.of_body Ty_ok mixed Tryz.func26 rfl (by kernel_rfl) Tryz.ntmps26 (by simp) (congrArg Array.toList Tryz.results26) ?_)
 simp only [slotsOf, resD]
 (repeat' (first | (with_reducible first | exact True.intro | refine And.intro ?_ ?_ | refine aBl ?_ | (refine aS 5 [] ?_; intro K hK)) | ((with_reducible first | refine aGo ?_); simp only [go_sem]) | ((with_reducible refine aCd ?_ ?_ (fun hb => ?_) (fun hb => ?_)); (iterate 2 simp only [go_sem]); all_goals (simp only [go_sem] at hb; try simp only [bls] at hb)) | ((iterate 6 try ((fail_if_success with_reducible refine hK _ ?_ ?_ ?_); clear hK K)); with_reducible refine hK _ ?_ ?_ ?_; rotate_left; (focus (simp only [go_sem]; exact rfl)); clear hK K) | ((first | (with_reducible first | refine xA ?_ | refine xD ?_ | refine xO ?_ | refine xR ?_ | refine xG ?_ | refine xH ?_ | refine xM ?_) | ((with_reducible refine gA ?_); refine xA ?_) | ((with_reducible refine gD ?_); refine xD ?_) | ((with_reducible refine gG ?_); refine xG ?_)); simp only [go_sem]) | (with_reducible refine aGs (fun hg0 => ?_) (fun hg0 => ?_) <;> first | (with_reducible first | exact aF1 hg0 | exact aF2 hg0) | (simp only [hg0, go_sem])) | (with_reducible refine aNk ?_; intro bnil hnil; try simp only []) | exact aZ | fail))
 rw [Bool.eq_iff_iff]
 simp [and_comm]
end Go.Proofs.YtlpllbbjmbbfnaaGreatDoor
