/-
 Contracts: transitions that raise a sum; what is admissible.
-/
import Derived.Test.YtgbhmieaoaojoaaN6
import Derived.Test.YtgbhmieaoaojoaaWA
set_option linter.unusedSimpArgs false
set_option linter.unusedVariables false
namespace Go.Proofs.Ytgbhmieaoaojoaa
open Go.Eng Go.RowKit
def risesB (l : List Int) (t : Int) : Bool := decide (0 < l.getD t.toNat 0)
def raisingL (n : Net) (c : Con) (u : List Int) : Int := if ixFrom (risesB (effL n c)) 0 u < 0 then -1 else u.getD (ixFrom (risesB (effL n c)) 0 u).toNat 0
theorem raising1_c (l : List Int) (t : Int) (h0 : 0 ≤ t) (h1 : t < l.length) : ACalls Try.prog 43 [.one (.int .i64 t), .one (.ref [.list (ints l)])] (.one (.bool (risesB l t))) [] := by
 (refine ACalls.of_body Ty_ok mixed Try.func43 rfl (by kernel_rfl) Try.ntmps43 (by simp) (congrArg Array.toList Try.results43) ?_)
 simp only [slotsOf]
 (repeat' (first | (with_reducible first | exact True.intro | refine And.intro ?_ ?_ | refine aBl ?_ | (refine aS 4 [] ?_; intro K hK)) | ((with_reducible first | refine aGo ?_); simp only [go_sem]) | ((with_reducible refine aCd ?_ ?_ (fun hb => ?_) (fun hb => ?_)); (iterate 2 simp only [go_sem]); all_goals (simp only [go_sem] at hb; try simp only [bls] at hb)) | ((iterate 6 try ((fail_if_success with_reducible refine hK _ ?_ ?_ ?_); clear hK K)); with_reducible refine hK _ ?_ ?_ ?_; rotate_left; (focus (simp only [go_sem]; exact rfl)); clear hK K) | (with_reducible refine aGs (fun hg0 => ?_) (fun hg0 => ?_) <;> first | (with_reducible first | exact aF1 hg0 | exact aF2 hg0) | (simp only [hg0, go_sem])) | (with_reducible refine aNk ?_; intro bnil hnil; try simp only []) | exact aZ | fail))
 rfl
theorem ixFrom_lt {α : Type} (p : α → Bool) : ∀ (l : List α) (k : Nat), 0 ≤ ixFrom p k l → k ≤ ixFrom p k l ∧ ixFrom p k l < k + l.length
 | [], k, h => by simp [ixFrom] at h
 | e :: l, k, h => by
  rw [ixFrom] at h ⊢
  split
  ·simp only [List.length_cons]; omega
  ·rename_i hp
   rw [if_neg hp] at h
   have := ixFrom_lt p l (k + 1) h
   simp only [List.length_cons]
   omega
set_option maxHeartbeats 4000000 in
theorem raising_c (n : Net) (c : Con) (u : List Int) (hn : NetOk n) (hl : c.fac.length = n.init.length) (hf : Sm 16 c.fac) (hu : ∀ x ∈ u, 0 ≤ x ∧ x < n.trs.length) (hul : u.length ≤ 1000000) :
  ACalls Try.prog 36 [.agg n.d, .agg c.d, .one (.list (ints u))] (.one (.int .i64 (raisingL n c u))) [] := by
 have h1 := effects_c n c hn hl hf
 have hEl := effL_length n c
 simp only [Net.d, Con.d] at h1
 have h2 := IndexFuncInts_c u 43 [.ref [.list (ints (effL n c))]] (risesB (effL n c)) hul (capsOk_ref1 _) (fun e he => raising1_c (effL n c) e (hu e he).1 (by rw [hEl]; exact (hu e he).2))
 have h3 := ixFrom_lt (risesB (effL n c)) u 0
 (refine ACalls.of_body Ty_ok mixed Try.func36 rfl (by kernel_rfl) Try.ntmps36 (by simp) (congrArg Array.toList Try.results36) ?_)
 simp only [slotsOf, Net.d, Con.d]
 (repeat' (first | (with_reducible first | exact True.intro | refine And.intro ?_ ?_ | refine aBl ?_ | (refine aS 9 [] ?_; intro K hK)) | ((with_reducible first | refine aGo ?_); simp only [go_sem]) | ((with_reducible refine aCd ?_ ?_ (fun hb => ?_) (fun hb => ?_)); (iterate 2 simp only [go_sem]); all_goals (simp only [go_sem] at hb; try simp only [bls] at hb)) | ((iterate 6 try ((fail_if_success with_reducible refine hK _ ?_ ?_ ?_); clear hK K)); with_reducible refine hK _ ?_ ?_ ?_; rotate_left; (focus (simp only [go_sem]; exact rfl)); clear hK K) | ((first | (with_reducible first | refine xA ?_ | refine xD ?_ | refine xO ?_ | refine xR ?_ | refine xG ?_ | refine xH ?_ | refine xM ?_) | ((with_reducible refine gA ?_); refine xA ?_) | ((with_reducible refine gD ?_); refine xD ?_) | ((with_reducible refine gG ?_); refine xG ?_)); simp only [go_sem]) | (with_reducible refine aGs (fun hg0 => ?_) (fun hg0 => ?_) <;> first | (with_reducible first | exact aF1 hg0 | exact aF2 hg0) | (simp only [hg0, go_sem])) | (with_reducible refine aNk ?_; intro bnil hnil; try simp only []) | exact aZ | fail))
 ·rw [raisingL, if_pos hb]
 ·rw [raisingL, if_neg (by omega)]
def chkE (n : Net) (c : Con) (u : List Int) : Int := if conE n c ≠ 0 then conE n c else checkSet u n.trs.length
theorem monCheck_c (n : Net) (c : Con) (u : List Int) (hn : n.Fits) (hc : c.fac.length ≤ 1000000) (hul : u.length ≤ 1000000) : ACalls Try.prog 33 [.agg n.d, .agg c.d, .one (.list (ints u))] (.one (.int .i64 (chkE n c u))) [] := by
 have h1 := conCheck_c n c hn hc
 have h2 := CheckSet_c u n.trs.length (by omega)
 simp only [Net.d, Con.d] at h1
 (refine ACalls.of_body Ty_ok mixed Try.func33 rfl (by kernel_rfl) Try.ntmps33 (by simp) (congrArg Array.toList Try.results33) ?_)
 simp only [slotsOf, Net.d, Con.d]
 (repeat' (first | (with_reducible first | exact True.intro | refine And.intro ?_ ?_ | refine aBl ?_ | (refine aS 8 [] ?_; intro K hK)) | ((with_reducible first | refine aGo ?_); simp only [go_sem]) | ((with_reducible refine aCd ?_ ?_ (fun hb => ?_) (fun hb => ?_)); (iterate 2 simp only [go_sem]); all_goals (simp only [go_sem] at hb; try simp only [bls] at hb)) | ((iterate 6 try ((fail_if_success with_reducible refine hK _ ?_ ?_ ?_); clear hK K)); with_reducible refine hK _ ?_ ?_ ?_; rotate_left; (focus (simp only [go_sem]; exact rfl)); clear hK K) | ((first | (with_reducible first | refine xA ?_ | refine xD ?_ | refine xO ?_ | refine xR ?_ | refine xG ?_ | refine xH ?_ | refine xM ?_) | ((with_reducible refine gA ?_); refine xA ?_) | ((with_reducible refine gD ?_); refine xD ?_) | ((with_reducible refine gG ?_); refine xG ?_)); simp only [go_sem]) | (with_reducible refine aGs (fun hg0 => ?_) (fun hg0 => ?_) <;> first | (with_reducible first | exact aF1 hg0 | exact aF2 hg0) | (simp only [hg0, go_sem])) | (with_reducible refine aNk ?_; intro bnil hnil; try simp only []) | exact aZ | fail))
 ·rw [chkE, if_pos hb]
 ·rw [chkE, if_neg (by omega)]
theorem chk_ok {n : Net} {c : Con} {u : List Int} (h : chkE n c u = 0) : conE n c = 0 ∧ ∀ x ∈ u, 0 ≤ x ∧ x < n.trs.length := by
 unfold chkE at h
 split at h
 ·rename_i h1; exact absurd h h1
 ·exact ⟨by omega, csFrom_in _ u none h⟩
set_option maxHeartbeats 4000000 in
theorem Admissible_c (n : Net) (c : Con) (u : List Int) (hn : n.Fits) (hc : c.fac.length ≤ 1000000) (hul : u.length ≤ 1000000) :
  ACalls Try.prog 15 [.agg n.d, .agg c.d, .one (.list (ints u))] (.tup [.one (.int .i64 (if chkE n c u ≠ 0 then 0 else max (raisingL n c u) 0)), .one (.bool (decide (chkE n c u = 0 ∧ raisingL n c u < 0))), .one (.int .i64 (chkE n c u))]) [] := by
 have h1 := monCheck_c n c u hn hc hul
 simp only [Net.d, Con.d] at h1
 by_cases h0 : chkE n c u = 0
 ·obtain ⟨q1, q2⟩ := chk_ok h0
  obtain ⟨r1, r2, r3, _⟩ := conOk_of q1
  have h2 := raising_c n c u (netOk_of r1) r2 r3 q2 hul
  simp only [Net.d, Con.d] at h2
  rw [h0] at h1 ⊢
  (refine ACalls.of_body Ty_ok mixed Try.func15 rfl (by kernel_rfl) Try.ntmps15 (by simp) (congrArg Array.toList Try.results15) ?_)
  simp only [slotsOf, Net.d, Con.d]
  (repeat' (first | (with_reducible first | exact True.intro | refine And.intro ?_ ?_ | refine aBl ?_ | (refine aS 11 [] ?_; intro K hK)) | ((with_reducible first | refine aGo ?_); simp only [go_sem]) | ((with_reducible refine aCd ?_ ?_ (fun hb => ?_) (fun hb => ?_)); (iterate 2 simp only [go_sem]); all_goals (simp only [go_sem] at hb; try simp only [bls] at hb)) | ((iterate 6 try ((fail_if_success with_reducible refine hK _ ?_ ?_ ?_); clear hK K)); with_reducible refine hK _ ?_ ?_ ?_; rotate_left; (focus (simp only [go_sem]; exact rfl)); clear hK K) | ((first | (with_reducible first | refine xA ?_ | refine xD ?_ | refine xO ?_ | refine xR ?_ | refine xG ?_ | refine xH ?_ | refine xM ?_) | ((with_reducible refine gA ?_); refine xA ?_) | ((with_reducible refine gD ?_); refine xD ?_) | ((with_reducible refine gG ?_); refine xG ?_)); simp only [go_sem]) | (with_reducible refine aGs (fun hg0 => ?_) (fun hg0 => ?_) <;> first | (with_reducible first | exact aF1 hg0 | exact aF2 hg0) | (simp only [hg0, go_sem])) | (with_reducible refine aNk ?_; intro bnil hnil; try simp only []) | exact aZ | fail))
  all_goals first | omega | skip
  all_goals simp
  all_goals omega
 ·(refine ACalls.of_body Ty_ok mixed Try.func15 rfl (by kernel_rfl) Try.ntmps15 (by simp) (congrArg Array.toList Try.results15) ?_)
  simp only [slotsOf, Net.d, Con.d]
  (repeat' (first | (with_reducible first | exact True.intro | refine And.intro ?_ ?_ | refine aBl ?_ | (refine aS 11 [] ?_; intro K hK)) | ((with_reducible first | refine aGo ?_); simp only [go_sem]) | ((with_reducible refine aCd ?_ ?_ (fun hb => ?_) (fun hb => ?_)); (iterate 2 simp only [go_sem]); all_goals (simp only [go_sem] at hb; try simp only [bls] at hb)) | ((iterate 6 try ((fail_if_success with_reducible refine hK _ ?_ ?_ ?_); clear hK K)); with_reducible refine hK _ ?_ ?_ ?_; rotate_left; (focus (simp only [go_sem]; exact rfl)); clear hK K) | ((first | (with_reducible first | refine xA ?_ | refine xD ?_ | refine xO ?_ | refine xR ?_ | refine xG ?_ | refine xH ?_ | refine xM ?_) | ((with_reducible refine gA ?_); refine xA ?_) | ((with_reducible refine gD ?_); refine xD ?_) | ((with_reducible refine gG ?_); refine xG ?_)); simp only [go_sem]) | (with_reducible refine aGs (fun hg0 => ?_) (fun hg0 => ?_) <;> first | (with_reducible first | exact aF1 hg0 | exact aF2 hg0) | (simp only [hg0, go_sem])) | (with_reducible refine aNk ?_; intro bnil hnil; try simp only []) | exact aZ | fail))
  all_goals first | omega | skip
  all_goals simp [h0]
end Go.Proofs.Ytgbhmieaoaojoaa
