/-
 Chapter 23: items found, checked and compared.
-/
import Derived.Test.YtkjnjkdcpbgabaaGreatDoorU1
set_option linter.unusedSimpArgs false
set_option linter.unusedVariables false
namespace Go.Proofs.YtkjnjkdcpbgabaaGreatDoor
open Go.Eng Go.RowKit
def bareB (a : AU) : Bool := decide (a.alpha.length + a.marked.length + a.edges.length = 0) && decide (a.states = 0)
theorem bareB_iff (a : AU) : bareB a = true ↔ a = AU.no := by
 obtain ⟨a1, a2, a3, a4⟩ := a
 simp only [bareB, Bool.and_eq_true, decide_eq_true_eq, AU.no, AU.mk.injEq]
 constructor
 ·rintro ⟨h1, h2⟩
  exact ⟨len_zero (by omega), h2, len_zero (by omega), len_zero (by omega)⟩
 ·rintro ⟨rfl, rfl, rfl, rfl⟩
  exact ⟨rfl, rfl⟩
def properB (x : It) : Bool :=
 if x.kind = 3 then bareB x.aut && decide (x.terms.length = 0) && decide (x.bound = 0) else if x.kind = 4 then bareB x.aut && decide (x.locs.length = 0) else decide (x.locs.length + x.terms.length = 0) && decide (x.bound = 0)
theorem bare_c (a : AU) (hf : a.Fits) : ACalls Tryz.prog 45 [.agg a.d] (.one (.bool (bareB a))) [] := by
 obtain ⟨h1, h2, h3⟩ := hf
 have e : bareB a = (decide ((a.alpha.length : Int) + a.marked.length + a.edges.length = 0) && decide (a.states = 0)) := by
  rw [bareB]; congr 1; rw [Bool.eq_iff_iff]; simp only [decide_eq_true_eq]; omega
 rw [e]
 (refine ACalls.of_body Ty_ok mixed Tryz.func45 rfl (by kernel_rfl) Tryz.ntmps45 (by simp) (congrArg Array.toList Tryz.results45) ?_)
 simp only [slotsOf, AU.d]
 (repeat' (first | (with_reducible first | exact True.intro | refine And.intro ?_ ?_ | refine aBl ?_ | (refine aS 3 [] ?_; intro K hK)) | ((with_reducible first | refine aGo ?_); simp only [go_sem]) | ((with_reducible refine aCd ?_ ?_ (fun hb => ?_) (fun hb => ?_)); (iterate 2 simp only [go_sem]); all_goals (simp only [go_sem] at hb; try simp only [bls] at hb)) | ((iterate 6 try ((fail_if_success with_reducible refine hK _ ?_ ?_ ?_); clear hK K)); with_reducible refine hK _ ?_ ?_ ?_; rotate_left; (focus (simp only [go_sem]; exact rfl)); clear hK K) | (with_reducible refine aGs (fun hg0 => ?_) (fun hg0 => ?_) <;> first | (with_reducible first | exact aF1 hg0 | exact aF2 hg0) | (simp only [hg0, go_sem])) | (with_reducible refine aNk ?_; intro bnil hnil; try simp only []) | exact aZ | fail))
 all_goals first | omega | rfl | (simp; done) | skip
set_option maxHeartbeats 4000000 in
theorem proper_c (x : It) (hf : x.Fits) : ACalls Tryz.prog 70 [.agg x.d] (.one (.bool (properB x))) [] := by
 obtain ⟨h1, h2, h3⟩ := hf.aut
 have h4 := hf.locs
 have h5 := hf.terms
 have hP : properB x = if x.kind = 3 then bareB x.aut && decide (x.terms.length = 0) && decide (x.bound = 0) else if x.kind = 4 then bareB x.aut && decide (x.locs.length = 0) else decide (x.locs.length + x.terms.length = 0) && decide (x.bound = 0) := rfl
 generalize properB x = R at *
 (refine ACalls.of_body Ty_ok mixed Tryz.func70 rfl (by kernel_rfl) Tryz.ntmps70 (by simp) (congrArg Array.toList Tryz.results70) ?_)
 simp only [slotsOf, It.d]
 (repeat' (first | (with_reducible first | exact True.intro | refine And.intro ?_ ?_ | refine aBl ?_ | (refine aS 5 [25] ?_; intro K hK)) | ((with_reducible first | refine aGo ?_); simp only [go_sem]) | ((with_reducible refine aCd ?_ ?_ (fun hb => ?_) (fun hb => ?_)); (iterate 2 simp only [go_sem]); all_goals (simp only [go_sem] at hb; try simp only [bls] at hb)) | ((iterate 6 try ((fail_if_success with_reducible refine hK _ ?_ ?_ ?_); clear hK K)); with_reducible refine hK _ ?_ ?_ ?_; rotate_left; (focus (simp only [go_sem]; exact rfl)); clear hK K) | (with_reducible refine aGs (fun hg0 => ?_) (fun hg0 => ?_) <;> first | (with_reducible first | exact aF1 hg0 | exact aF2 hg0) | (simp only [hg0, go_sem])) | (with_reducible refine aNk ?_; intro bnil hnil; try simp only []) | exact aZ | fail))
 ·rw [hP, if_pos hb, Bool.eq_iff_iff]; simp only [bareB, Bool.and_eq_true, beq_iff_eq, decide_eq_true_eq]; omega
 ·rw [hP, if_neg ‹¬ x.kind = 3›, if_pos hb, Bool.eq_iff_iff]; simp only [bareB, Bool.and_eq_true, beq_iff_eq, decide_eq_true_eq]; omega
 ·rw [hP, if_neg ‹¬ x.kind = 3›, if_neg hb, Bool.eq_iff_iff]; simp only [Bool.and_eq_true, beq_iff_eq, decide_eq_true_eq]; omega
theorem toNat_pred (k : Nat) : ((k : Int) - 1).toNat = k - 1 := by omega
/-! found by kind and name -/
def keyB (k : Int) (s : List UInt8) (x : It) : Bool := decide (x.kind = k) && decide (x.name = s)
def findI (l : List It) (k : Int) (s : List UInt8) : Int := ixFrom (keyB k s) 0 l
theorem Find1_c (x : It) (k : Int) (s : List UInt8) : ACalls Tryz.prog 47 [.agg x.d, .one (.ref [.int .i64 k]), .one (.ref [.str s])] (.one (.bool (keyB k s x))) [] := by
 (refine ACalls.of_body Ty_ok mixed Tryz.func47 rfl (by kernel_rfl) Tryz.ntmps47 (by simp) (congrArg Array.toList Tryz.results47) ?_)
 simp only [slotsOf, It.d]
 (repeat' (first | (with_reducible first | exact True.intro | refine And.intro ?_ ?_ | refine aBl ?_ | (refine aS 5 [] ?_; intro K hK)) | ((with_reducible first | refine aGo ?_); simp only [go_sem]) | ((with_reducible refine aCd ?_ ?_ (fun hb => ?_) (fun hb => ?_)); (iterate 2 simp only [go_sem]); all_goals (simp only [go_sem] at hb; try simp only [bls] at hb)) | ((iterate 6 try ((fail_if_success with_reducible refine hK _ ?_ ?_ ?_); clear hK K)); with_reducible refine hK _ ?_ ?_ ?_; rotate_left; (focus (simp only [go_sem]; exact rfl)); clear hK K) | (with_reducible refine aGs (fun hg0 => ?_) (fun hg0 => ?_) <;> first | (with_reducible first | exact aF1 hg0 | exact aF2 hg0) | (simp only [hg0, go_sem])) | (with_reducible refine aNk ?_; intro bnil hnil; try simp only []) | exact aZ | fail))
 rw [keyB, Bool.eq_iff_iff]; simp only [Bool.and_eq_true, beq_iff_eq, decide_eq_true_eq]
set_option maxHeartbeats 4000000 in
theorem IndexFuncIts_c (l : List It) (f : FuncId) (caps : List D) (p : It → Bool) (hn : l.length ≤ 1000000) (hc : CapsOk caps) (hp : ∀ e ∈ l, ACalls Tryz.prog f (.agg e.d :: caps.map AV.one) (.one (.bool (p e))) []) :
  ACalls Tryz.prog 46 [.one (.list (itD l)), .one (.clo f caps)] (.one (.int .i64 (ixFrom p 0 l))) [] := by
 have hc1 := hc.lt
 have hc2 := hc.none
 have hc3 := hc.bor
 (refine ACalls.of_body Ty_ok mixed Tryz.func46 rfl (by kernel_rfl) Tryz.ntmps46 (by simp) (congrArg Array.toList Tryz.results46) ?_)
 simp only [slotsOf]
 (repeat' (first | (with_reducible first | exact True.intro | refine And.intro ?_ ?_ | refine aBl ?_ | (refine aS 6 [7, 8] ?_; intro K hK)) | ((with_reducible first | refine aGo ?_); simp only [go_sem]) | ((with_reducible refine aCd ?_ ?_ (fun hb => ?_) (fun hb => ?_)); (iterate 2 simp only [go_sem]); all_goals (simp only [go_sem] at hb; try simp only [bls] at hb)) | ((iterate 6 try ((fail_if_success with_reducible refine hK _ ?_ ?_ ?_); clear hK K)); with_reducible refine hK _ ?_ ?_ ?_; rotate_left; (focus (simp only [go_sem]; exact rfl)); clear hK K) | (with_reducible refine aGs (fun hg0 => ?_) (fun hg0 => ?_) <;> first | (with_reducible first | exact aF1 hg0 | exact aF2 hg0) | (simp only [hg0, go_sem])) | (with_reducible refine aNk ?_; intro bnil hnil; try simp only []) | exact aZ | fail))
 refine awp_loop _ (by simp only [go_sem]; rfl) Nat (fun k => k ≤ l.length ∧ ixFrom p 0 l = ixFrom p k (l.drop k)) (fun k => [(8, .one (.int .i64 k))]) (fun _ H => H) (fun k => l.length - k) 0 ⟨by omega, by simp⟩ ?_ ?_
 ·(simp only [SubF, hc1, hc2, go_sem]; (try simp only [hc1, hc2, go_sem]); repeat' (first | exact True.intro | with_reducible refine And.intro ?_ ?_ | rfl | omega))
 ·rintro k ⟨hk, hres⟩ L hL
  by_cases hlt : k < l.length
  ·have hq : ((k : Nat) : Int).toNat = k := by omega
   have hg := itD_get hlt [.int .i64 0, .str [], .nil, .int .i64 0, .nil, .nil, .nil, .nil, .int .i64 0]
   have hpe := hp (l.getD k It.no) (getD_mem l k It.no hlt)
   have hs := ix_step (d := It.no) hlt hres
   generalize l.getD k It.no = e at *
   simp only [It.d] at hg hpe
   (simp only [go_sem] at hL ⊢)
   (repeat' (first | (with_reducible first | exact True.intro | refine And.intro ?_ ?_ | refine aBl ?_ | (refine aS 6 [7, 8] ?_; intro K hK)) | ((with_reducible first | refine aGo ?_); simp only [hc3, hg, hq, go_sem]) | ((with_reducible refine aCd ?_ ?_ (fun hb => ?_) (fun hb => ?_)); (iterate 2 simp only [hc3, hg, hq, go_sem]); all_goals (simp only [hc3, hg, hq, go_sem] at hb; try simp only [bls] at hb)) | ((iterate 6 try ((fail_if_success with_reducible refine hK _ ?_ ?_ ?_); clear hK K)); with_reducible refine hK _ ?_ ?_ ?_; rotate_left; (focus (simp only [hc3, hg, hq, go_sem]; exact rfl)); clear hK K) | ((first | (with_reducible first | refine xA ?_ | refine xD ?_ | refine xO ?_ | refine xR ?_ | refine xG ?_ | refine xH ?_ | refine xM ?_) | ((with_reducible refine gA ?_); refine xA ?_) | ((with_reducible refine gD ?_); refine xD ?_) | ((with_reducible refine gG ?_); refine xG ?_)); simp only [hc3, hg, hq, go_sem]) | (with_reducible refine aGs (fun hg0 => ?_) (fun hg0 => ?_) <;> first | (with_reducible first | exact aF1 hg0 | exact aF2 hg0) | (simp only [hg0, hc3, hg, hq, go_sem])) | (with_reducible refine aNk ?_; intro bnil hnil; try simp only []) | exact aZ | fail))
   all_goals first | omega | skip
   ·rw [hs, if_pos hb]
   ·rw [if_neg (by rw [hb]; simp)] at hs
    refine hL _ (k + 1) ⟨by omega, hs⟩ ?_ (by omega)
    (simp only [SubF, hc1, hc2, go_sem]; (try simp only [hc1, hc2, go_sem]); repeat' (first | exact True.intro | with_reducible refine And.intro ?_ ?_ | rfl | omega))
  ·(simp only [go_sem] at hL ⊢)
   (repeat' (first | (with_reducible first | exact True.intro | refine And.intro ?_ ?_ | refine aBl ?_ | (refine aS 6 [7, 8] ?_; intro K hK)) | ((with_reducible first | refine aGo ?_); simp only [go_sem]) | ((with_reducible refine aCd ?_ ?_ (fun hb => ?_) (fun hb => ?_)); (iterate 2 simp only [go_sem]); all_goals (simp only [go_sem] at hb; try simp only [bls] at hb)) | ((iterate 6 try ((fail_if_success with_reducible refine hK _ ?_ ?_ ?_); clear hK K)); with_reducible refine hK _ ?_ ?_ ?_; rotate_left; (focus (simp only [go_sem]; exact rfl)); clear hK K) | (with_reducible refine aGs (fun hg0 => ?_) (fun hg0 => ?_) <;> first | (with_reducible first | exact aF1 hg0 | exact aF2 hg0) | (simp only [hg0, go_sem])) | (with_reducible refine aNk ?_; intro bnil hnil; try simp only []) | exact aZ | fail))
   all_goals first | omega | skip
   rw [hres, drop_end l k (by omega)]; rfl
theorem Find_c (l : List It) (k : Int) (s : List UInt8) (hl : l.length ≤ 1000000) : ACalls Tryz.prog 15 [.one (.list (itD l)), .one (.int .i64 k), .one (.str s)] (.tup [.one (.int .i64 (max (findI l k s) 0)), .one (.bool (decide (0 ≤ findI l k s)))]) [] := by
 have h1 := IndexFuncIts_c l 47 [.ref [.int .i64 k], .ref [.str s]] (keyB k s) hl (capsOk_ref2 _ _) (fun x _ => Find1_c x k s)
 (refine ACalls.of_body Ty_ok mixed Tryz.func15 rfl (by kernel_rfl) Tryz.ntmps15 (by simp) (congrArg Array.toList Tryz.results15) ?_)
 simp only [slotsOf]
 (repeat' (first | (with_reducible first | exact True.intro | refine And.intro ?_ ?_ | refine aBl ?_ | (refine aS 9 [] ?_; intro K hK)) | ((with_reducible first | refine aGo ?_); simp only [go_sem]) | ((with_reducible refine aCd ?_ ?_ (fun hb => ?_) (fun hb => ?_)); (iterate 2 simp only [go_sem]); all_goals (simp only [go_sem] at hb; try simp only [bls] at hb)) | ((iterate 6 try ((fail_if_success with_reducible refine hK _ ?_ ?_ ?_); clear hK K)); with_reducible refine hK _ ?_ ?_ ?_; rotate_left; (focus (simp only [go_sem]; exact rfl)); clear hK K) | ((first | (with_reducible first | refine xA ?_ | refine xD ?_ | refine xO ?_ | refine xR ?_ | refine xG ?_ | refine xH ?_ | refine xM ?_) | ((with_reducible refine gA ?_); refine xA ?_) | ((with_reducible refine gD ?_); refine xD ?_) | ((with_reducible refine gG ?_); refine xG ?_)); simp only [go_sem]) | (with_reducible refine aGs (fun hg0 => ?_) (fun hg0 => ?_) <;> first | (with_reducible first | exact aF1 hg0 | exact aF2 hg0) | (simp only [hg0, go_sem])) | (with_reducible refine aNk ?_; intro bnil hnil; try simp only []) | exact aZ | fail))
 all_goals rfl
set_option maxHeartbeats 4000000 in
theorem lawfind_c (l : List It) (k : Int) (s : List UInt8) (hl : l.length ≤ 1000000) : ACalls Tryz.prog 16 [.one (.list (itD l)), .one (.int .i64 k), .one (.str s)] (.one (.int .i64 (findI l k s))) [] := by
 have hR : findI l k s = ixFrom (keyB k s) 0 l := rfl
 generalize findI l k s = R at *
 (refine ACalls.of_body Ty_ok mixed Tryz.func16 rfl (by kernel_rfl) Tryz.ntmps16 (by simp) (congrArg Array.toList Tryz.results16) ?_)
 simp only [slotsOf]
 (repeat' (first | (with_reducible first | exact True.intro | refine And.intro ?_ ?_ | refine aBl ?_ | (refine aS 8 [] ?_; intro K hK)) | ((with_reducible first | refine aGo ?_); simp only [go_sem]) | ((with_reducible refine aCd ?_ ?_ (fun hb => ?_) (fun hb => ?_)); (iterate 2 simp only [go_sem]); all_goals (simp only [go_sem] at hb; try simp only [bls] at hb)) | ((iterate 6 try ((fail_if_success with_reducible refine hK _ ?_ ?_ ?_); clear hK K)); with_reducible refine hK _ ?_ ?_ ?_; rotate_left; (focus (simp only [go_sem]; exact rfl)); clear hK K) | (with_reducible refine aGs (fun hg0 => ?_) (fun hg0 => ?_) <;> first | (with_reducible first | exact aF1 hg0 | exact aF2 hg0) | (simp only [hg0, go_sem])) | (with_reducible refine aNk ?_; intro bnil hnil; try simp only []) | exact aZ | fail))
 refine awp_loop _ (by simp only [go_sem]; rfl) Nat (fun i => i ≤ l.length ∧ R = ixFrom (keyB k s) i (l.drop i)) (fun i => [(7, .one (.int .i64 i))]) (fun _ H => H) (fun i => l.length - i) 0 ⟨by omega, by simpa using hR⟩ ?_ ?_
 ·(simp only [SubF, go_sem]; (try simp only [go_sem]); repeat' (first | exact True.intro | with_reducible refine And.intro ?_ ?_ | rfl | omega))
 rintro i ⟨hk, hres⟩ L hL
 have hq : ((i : Nat) : Int).toNat = i := by omega
 by_cases hlt : i < l.length
 ·have hg := itD_get hlt [.int .i64 0, .str [], .nil, .int .i64 0, .nil, .nil, .nil, .nil, .int .i64 0]
  have hs := ix_step (d := It.no) hlt hres
  generalize l.getD i It.no = e at *
  simp only [It.d] at hg
  (simp only [go_sem] at hL ⊢)
  (repeat' (first | (with_reducible first | exact True.intro | refine And.intro ?_ ?_ | refine aBl ?_ | (refine aS 8 [] ?_; intro K hK)) | ((with_reducible first | refine aGo ?_); simp only [hg, hq, go_sem]) | ((with_reducible refine aCd ?_ ?_ (fun hb => ?_) (fun hb => ?_)); (iterate 2 simp only [hg, hq, go_sem]); all_goals (simp only [hg, hq, go_sem] at hb; try simp only [bls] at hb)) | ((iterate 6 try ((fail_if_success with_reducible refine hK _ ?_ ?_ ?_); clear hK K)); with_reducible refine hK _ ?_ ?_ ?_; rotate_left; (focus (simp only [hg, hq, go_sem]; exact rfl)); clear hK K) | (with_reducible refine aGs (fun hg0 => ?_) (fun hg0 => ?_) <;> first | (with_reducible first | exact aF1 hg0 | exact aF2 hg0) | (simp only [hg0, hg, hq, go_sem])) | (with_reducible refine aNk ?_; intro bnil hnil; try simp only []) | exact aZ | fail))
  all_goals first | omega | skip
  ·rw [hs, if_pos (by simpa [keyB] using hb)]
  ·rw [if_neg (by simp only [keyB, Bool.and_eq_true, decide_eq_true_eq]; rintro ⟨h1, h2⟩; exact hb.elim (fun h => h h1) (fun h => h h2))] at hs
   exact hL _ (i + 1) ⟨by omega, hs⟩ (by (simp only [SubF, go_sem]; (try simp only [go_sem]); repeat' (first | exact True.intro | with_reducible refine And.intro ?_ ?_ | rfl | omega))) (by omega)
 ·(simp only [go_sem] at hL ⊢)
  (repeat' (first | (with_reducible first | exact True.intro | refine And.intro ?_ ?_ | refine aBl ?_ | (refine aS 8 [] ?_; intro K hK)) | ((with_reducible first | refine aGo ?_); simp only [go_sem]) | ((with_reducible refine aCd ?_ ?_ (fun hb => ?_) (fun hb => ?_)); (iterate 2 simp only [go_sem]); all_goals (simp only [go_sem] at hb; try simp only [bls] at hb)) | ((iterate 6 try ((fail_if_success with_reducible refine hK _ ?_ ?_ ?_); clear hK K)); with_reducible refine hK _ ?_ ?_ ?_; rotate_left; (focus (simp only [go_sem]; exact rfl)); clear hK K) | (with_reducible refine aGs (fun hg0 => ?_) (fun hg0 => ?_) <;> first | (with_reducible first | exact aF1 hg0 | exact aF2 hg0) | (simp only [hg0, go_sem])) | (with_reducible refine aNk ?_; intro bnil hnil; try simp only []) | exact aZ | fail))
  all_goals first | omega | skip
  rw [hres, drop_end l i (by omega)]; rfl
/-! lists of items checked -/
def chkFrom : List It → List It → Int
 | _, [] => 0
 | pre, x :: r => if x.kind < 1 ∨ 4 < x.kind then 11 else if isNameB x.name = false then 7 else if pre.any (keyB x.kind x.name) = true then 8 else if (pre.getLast?.any fun y => decide (x.kind < y.kind)) = true then 5 else if properB x = false then 6 else chkFrom (pre ++ [x]) r
def chkL (l : List It) : Int := if 76 < l.length then 3 else chkFrom [] l
theorem chk_step {l : List It} {b : Int} {k : Nat} (hk : k < l.length) (h : b = chkFrom (l.take k) (l.drop k)) :
  b = if (l.getD k It.no).kind < 1 ∨ 4 < (l.getD k It.no).kind then 11 else if isNameB (l.getD k It.no).name = false then 7 else if (l.take k).any (keyB (l.getD k It.no).kind (l.getD k It.no).name) = true then 8 else if 0 < k ∧ (l.getD k It.no).kind < (l.getD (k - 1) It.no).kind then 5 else if properB (l.getD k It.no) = false then 6 else chkFrom (l.take (k + 1)) (l.drop (k + 1)) := by
 rw [drop_getD l k It.no hk] at h
 rw [h, chkFrom, take_succ_getD l k It.no hk]
 have e : ((l.take k).getLast?.any fun y => decide ((l.getD k It.no).kind < y.kind)) = decide (0 < k ∧ (l.getD k It.no).kind < (l.getD (k - 1) It.no).kind) := by
  rw [List.getLast?_eq_getElem?, List.length_take, Nat.min_eq_left (by omega)]
  cases k with
  | zero => simp
  | succ k =>
   rw [List.getElem?_take, if_pos (by omega)]
   simp [List.getD, List.getElem?_eq_getElem (show k < l.length by omega)]
   rfl
 rw [e]
 simp only [decide_eq_true_eq]
theorem find_take {l : List It} {k : Nat} {x : It} (hk : k < l.length) (hx : l.getD k It.no = x) : findI l x.kind x.name < k ↔ (l.take k).any (keyB x.kind x.name) = true := by
 have key : ∀ (l : List It) (k j : Nat), k < l.length → keyB x.kind x.name (l.getD k It.no) = true → (ixFrom (keyB x.kind x.name) j l < (j + k : Nat) ↔ (l.take k).any (keyB x.kind x.name) = true) := by
  intro l
  induction l with
  | nil => intro k j h; simp at h
  | cons y l ih =>
   intro k j h hx
   rw [ixFrom]
   by_cases hy : keyB x.kind x.name y = true
   ·rw [if_pos hy]
    cases k with
    | zero => simp
    | succ k => simp [hy]; omega
   ·rw [if_neg hy]
    cases k with
    | zero => exact absurd hx hy
    | succ k =>
     have := ih k (j + 1) (by simpa using h) (by simpa [List.getD] using hx)
     rw [show j + 1 + k = j + (k + 1) by omega] at this
     rw [this]
     simp [hy]
 have := key l k 0 hk (by rw [hx]; simp [keyB])
 rwa [Nat.zero_add] at this
theorem LFits.take {l : List It} (h : LFits l) (k : Nat) : LFits (l.take k) := ⟨by rw [List.length_take]; have := h.len; omega, fun x hx => h.it x (List.mem_of_mem_take hx)⟩
theorem LFits.get {l : List It} (h : LFits l) {k : Nat} (hk : k < l.length) : (l.getD k It.no).Fits := h.it _ (getD_mem l k It.no hk)
set_option maxHeartbeats 8000000 in
theorem Check_c (l : List It) (hf : LFits l) : ACalls Tryz.prog 33 [.one (.list (itD l))] (.one (.int .i64 (chkL l))) [] := by
 have hl := hf.len
 have hR : chkL l = if 76 < l.length then 3 else chkFrom [] l := rfl
 generalize chkL l = R at *
 (refine ACalls.of_body Ty_ok mixed Tryz.func33 rfl (by kernel_rfl) Tryz.ntmps33 (by simp) (congrArg Array.toList Tryz.results33) ?_)
 simp only [slotsOf]
 (repeat' (first | (with_reducible first | exact True.intro | refine And.intro ?_ ?_ | refine aBl ?_ | (refine aS 5 [11, 10, 6, 12] ?_; intro K hK)) | ((with_reducible first | refine aGo ?_ | refine rP Ty_ok mixed 6 [0, 1, 3, 5] [.mid [pe 2, pe 4, pe 6] 0, .one 7, .mid [pe 8, pe 9, pe 10, pe 11, pe 12] 0] ?_ | refine rD (id := 13) ?_); simp only [go_sem]) | ((with_reducible refine aCd ?_ ?_ (fun hb => ?_) (fun hb => ?_)); (iterate 2 simp only [go_sem]); all_goals (simp only [go_sem] at hb; try simp only [bls] at hb)) | ((iterate 6 try ((fail_if_success with_reducible refine hK _ ?_ ?_ ?_); clear hK K)); with_reducible refine hK _ ?_ ?_ ?_; rotate_left; (focus (simp only [go_sem]; exact rfl)); clear hK K) | (with_reducible refine aGs (fun hg0 => ?_) (fun hg0 => ?_) <;> first | (with_reducible first | exact aF1 hg0 | exact aF2 hg0) | (simp only [hg0, go_sem])) | (with_reducible refine aNk ?_; intro bnil hnil; try simp only []) | exact aZ | fail))
 all_goals first | omega | skip
 rw [if_neg (by omega)] at hR
 refine awp_loop _ (by simp only [go_sem]; rfl) Nat (fun k => k ≤ l.length ∧ R = chkFrom (l.take k) (l.drop k)) (fun k => [(12, .one (.int .i64 k))]) (fun _ H => H) (fun k => l.length - k) 0 ⟨by omega, by simpa using hR⟩ ?_ ?_
 ·(simp only [SubF, go_sem]; (try simp only [go_sem]); repeat' (first | exact True.intro | with_reducible refine And.intro ?_ ?_ | rfl | omega))
 rintro k ⟨hk, hres⟩ L hL
 have hq : ((k : Nat) : Int).toNat = k := by omega
 by_cases hlt : k < l.length
 ·have hg := itD_get hlt [.int .i64 0, .str [], .nil, .int .i64 0, .nil, .nil, .nil, .nil, .int .i64 0]
  have hs := chk_step hlt hres
  have hfe := hf.get hlt
  have hp := proper_c _ hfe
  have hn := IsName_c (l.getD k It.no).name hfe.name
  have hF := Find_c (l.take k) (l.getD k It.no).kind (l.getD k It.no).name (by rw [List.length_take]; omega)
  have hFi : decide (0 ≤ findI (l.take k) (l.getD k It.no).kind (l.getD k It.no).name) = (l.take k).any (keyB (l.getD k It.no).kind (l.getD k It.no).name) := ix_any _ _ 0
  have hgp := itD_get (show k - 1 < l.length by omega) [.int .i64 0, .str [], .nil, .int .i64 0, .nil, .nil, .nil, .nil, .int .i64 0]
  rw [hFi] at hF
  have e1 := toNat_pred k
  generalize hA : (l.take k).any (keyB (l.getD k It.no).kind (l.getD k It.no).name) = A at *
  generalize hB : properB (l.getD k It.no) = B at *
  generalize hC : isNameB (l.getD k It.no).name = C at *
  generalize l.getD k It.no = e at *
  generalize l.getD (k - 1) It.no = y at *
  simp only [It.d] at hg hp hgp
  (simp only [go_sem] at hL ⊢)
  (repeat' (first | (with_reducible first | exact True.intro | refine And.intro ?_ ?_ | refine aBl ?_ | (refine aS 5 [11, 10, 6, 12] ?_; intro K hK)) | ((with_reducible first | refine aGo ?_ | refine rP Ty_ok mixed 6 [0, 1, 3, 5] [.mid [pe 2, pe 4, pe 6] 0, .one 7, .mid [pe 8, pe 9, pe 10, pe 11, pe 12] 0] ?_ | refine rD (id := 13) ?_); simp only [hg, hgp, hq, e1, go_sem]) | ((with_reducible refine aCd ?_ ?_ (fun hb => ?_) (fun hb => ?_)); (iterate 2 simp only [hg, hgp, hq, e1, go_sem]); all_goals (simp only [hg, hgp, hq, e1, go_sem] at hb; try simp only [bls] at hb)) | ((iterate 6 try ((fail_if_success with_reducible refine hK _ ?_ ?_ ?_); clear hK K)); with_reducible refine hK _ ?_ ?_ ?_; rotate_left; (focus (simp only [hg, hgp, hq, e1, go_sem]; exact rfl)); clear hK K) | ((first | (with_reducible first | refine xA ?_ | refine xD ?_ | refine xO ?_ | refine xR ?_ | refine xG ?_ | refine xH ?_ | refine xM ?_) | ((with_reducible refine gA ?_); refine xA ?_) | ((with_reducible refine gD ?_); refine xD ?_) | ((with_reducible refine gG ?_); refine xG ?_)); simp only [hg, hgp, hq, e1, go_sem]) | (with_reducible refine aGs (fun hg0 => ?_) (fun hg0 => ?_) <;> first | (with_reducible first | exact aF1 hg0 | exact aF2 hg0) | (simp only [hg0, hg, hgp, hq, e1, go_sem])) | (with_reducible refine aNk ?_; intro bnil hnil; try simp only []) | exact aZ | fail))
  all_goals first | omega | skip
  ·rw [hs, if_neg (by omega), if_pos ‹C = false›]
  ·rw [hs, if_neg (by omega), if_neg (by rw [‹C = true›]; decide), if_pos ‹A = true›]
  ·rw [hs, if_neg (by omega), if_neg (by rw [‹C = true›]; decide), if_neg (by rw [‹A = false›]; decide), if_pos (by omega)]
  ·rw [hs, if_neg (by omega), if_neg (by rw [‹C = true›]; decide), if_neg (by rw [‹A = false›]; decide), if_neg (by omega), if_pos ‹B = false›]
  ·rw [if_neg (by omega), if_neg (by rw [‹C = true›]; decide), if_neg (by rw [‹A = false›]; decide), if_neg (by omega), if_neg (by rw [‹B = true›]; decide)] at hs
   exact hL _ (k + 1) ⟨by omega, hs⟩ (by (simp only [SubF, go_sem]; (try simp only [go_sem]); repeat' (first | exact True.intro | with_reducible refine And.intro ?_ ?_ | rfl | omega))) (by omega)
 ·(simp only [go_sem] at hL ⊢)
  (repeat' (first | (with_reducible first | exact True.intro | refine And.intro ?_ ?_ | refine aBl ?_ | (refine aS 5 [11, 10, 6, 12] ?_; intro K hK)) | ((with_reducible first | refine aGo ?_ | refine rP Ty_ok mixed 6 [0, 1, 3, 5] [.mid [pe 2, pe 4, pe 6] 0, .one 7, .mid [pe 8, pe 9, pe 10, pe 11, pe 12] 0] ?_ | refine rD (id := 13) ?_); simp only [go_sem]) | ((with_reducible refine aCd ?_ ?_ (fun hb => ?_) (fun hb => ?_)); (iterate 2 simp only [go_sem]); all_goals (simp only [go_sem] at hb; try simp only [bls] at hb)) | ((iterate 6 try ((fail_if_success with_reducible refine hK _ ?_ ?_ ?_); clear hK K)); with_reducible refine hK _ ?_ ?_ ?_; rotate_left; (focus (simp only [go_sem]; exact rfl)); clear hK K) | (with_reducible refine aGs (fun hg0 => ?_) (fun hg0 => ?_) <;> first | (with_reducible first | exact aF1 hg0 | exact aF2 hg0) | (simp only [hg0, go_sem])) | (with_reducible refine aNk ?_; intro bnil hnil; try simp only []) | exact aZ | fail))
  all_goals first | omega | skip
  rw [hres, drop_end l k (by omega)]; rfl
theorem proper_law (x : It) (h : 1 ≤ x.kind ∧ x.kind ≤ 4) : (properB x = false) ↔ (¬ (x.kind = 1 ∨ x.kind = 2) ∧ bareB x.aut = false) ∨ (x.kind ≠ 3 ∧ 0 < x.locs.length) ∨ (x.kind ≠ 4 ∧ (0 < x.terms.length ∨ x.bound ≠ 0)) := by
 unfold properB
 generalize bareB x.aut = U
 by_cases h3 : x.kind = 3
 ·rw [if_pos h3]
  cases U
  ·simp only [Bool.false_and, true_iff]
   exact .inl ⟨by omega, by simp⟩
  ·simp only [Bool.true_and, Bool.and_eq_false_iff, decide_eq_false_iff_not, Bool.true_eq_false, and_false, false_or]
   omega
 ·rw [if_neg h3]
  by_cases h4 : x.kind = 4
  ·rw [if_pos h4]
   cases U
   ·simp only [Bool.false_and, true_iff]
    exact .inl ⟨by omega, by simp⟩
   ·simp only [Bool.true_and, decide_eq_false_iff_not, Bool.true_eq_false, and_false, false_or]
    omega
  ·rw [if_neg h4]
   have h12 : x.kind = 1 ∨ x.kind = 2 := by omega
   simp only [Bool.and_eq_false_iff, decide_eq_false_iff_not, h12, not_true_eq_false, false_and, false_or]
   omega
set_option maxHeartbeats 8000000 in
theorem lawcheck_c (l : List It) (hf : LFits l) : ACalls Tryz.prog 14 [.one (.list (itD l))] (.one (.int .i64 (chkL l))) [] := by
 have hl := hf.len
 have hR : chkL l = if 76 < l.length then 3 else chkFrom [] l := rfl
 generalize chkL l = R at *
 (refine ACalls.of_body Ty_ok mixed Tryz.func14 rfl (by kernel_rfl) Tryz.ntmps14 (by simp) (congrArg Array.toList Tryz.results14) ?_)
 simp only [slotsOf]
 (repeat' (first | (with_reducible first | exact True.intro | refine And.intro ?_ ?_ | refine aBl ?_ | (refine aS 6 [] ?_; intro K hK)) | ((with_reducible first | refine aGo ?_ | refine rD (id := 14) ?_); simp only [go_sem]) | ((with_reducible refine aCd ?_ ?_ (fun hb => ?_) (fun hb => ?_)); (iterate 2 simp only [go_sem]); all_goals (simp only [go_sem] at hb; try simp only [bls] at hb)) | ((iterate 6 try ((fail_if_success with_reducible refine hK _ ?_ ?_ ?_); clear hK K)); with_reducible refine hK _ ?_ ?_ ?_; rotate_left; (focus (simp only [go_sem]; exact rfl)); clear hK K) | (with_reducible refine aGs (fun hg0 => ?_) (fun hg0 => ?_) <;> first | (with_reducible first | exact aF1 hg0 | exact aF2 hg0) | (simp only [hg0, go_sem])) | (with_reducible refine aNk ?_; intro bnil hnil; try simp only []) | exact aZ | fail))
 all_goals first | omega | skip
 rw [if_neg (by omega)] at hR
 refine awp_loop _ (by simp only [go_sem]; rfl) Nat (fun k => k ≤ l.length ∧ R = chkFrom (l.take k) (l.drop k)) (fun k => [(3, .one (.int .i64 k))]) (fun _ H => H) (fun k => l.length - k) 0 ⟨by omega, by simpa using hR⟩ ?_ ?_
 ·(simp only [SubF, go_sem]; (try simp only [go_sem]); repeat' (first | exact True.intro | with_reducible refine And.intro ?_ ?_ | rfl | omega))
 rintro k ⟨hk, hres⟩ L hL
 have hq : ((k : Nat) : Int).toNat = k := by omega
 by_cases hlt : k < l.length
 ·have hg := itD_get hlt [.int .i64 0, .str [], .nil, .int .i64 0, .nil, .nil, .nil, .nil, .int .i64 0]
  have hs := chk_step hlt hres
  have hfe := hf.get hlt
  have hp := bare_c _ hfe.aut
  have hn := IsName_c (l.getD k It.no).name hfe.name
  have hF := lawfind_c l (l.getD k It.no).kind (l.getD k It.no).name (by omega)
  have hFi := find_take hlt (x := l.getD k It.no) rfl
  have hgp := itD_get (show k - 1 < l.length by omega) [.int .i64 0, .str [], .nil, .int .i64 0, .nil, .nil, .nil, .nil, .int .i64 0]
  have e1 := toNat_pred k
  have hB := proper_law (l.getD k It.no)
  generalize findI l (l.getD k It.no).kind (l.getD k It.no).name = fi at *
  generalize (l.take k).any (keyB (l.getD k It.no).kind (l.getD k It.no).name) = A at *
  generalize properB (l.getD k It.no) = B at *
  generalize isNameB (l.getD k It.no).name = C at *
  generalize l.getD k It.no = e at *
  generalize l.getD (k - 1) It.no = y at *
  generalize bareB e.aut = U at *
  simp only [It.d, AU.d] at hg hp hgp
  have H6 : (1 ≤ e.kind ∧ e.kind ≤ 4) → C = true → (k : Int) ≤ fi → ((k : Int) ≤ 0 ∨ y.kind ≤ e.kind) → ((¬ (e.kind = 1 ∨ e.kind = 2) ∧ U = false) ∨ (e.kind ≠ 3 ∧ 0 < e.locs.length) ∨ (e.kind ≠ 4 ∧ (0 < e.terms.length ∨ e.bound ≠ 0))) → 6 = R := fun a b c d f => by
   rw [hs, if_neg (by omega), if_neg (by rw [b]; decide), if_neg (fun h => by have := hFi.2 h; omega), if_neg (by omega), if_pos ((hB a).2 f)]
  have H0 : (1 ≤ e.kind ∧ e.kind ≤ 4) → C = true → (k : Int) ≤ fi → ((k : Int) ≤ 0 ∨ y.kind ≤ e.kind) → ((e.kind = 1 ∨ e.kind = 2) ∨ U = true) → (e.kind = 3 ∨ (e.locs.length : Int) ≤ 0) → (e.kind = 4 ∨ (e.terms.length : Int) ≤ 0 ∧ e.bound = 0) → R = chkFrom (l.take (k + 1)) (l.drop (k + 1)) := fun a b c d f g i => by
   rw [if_neg (by omega), if_neg (by rw [b]; decide), if_neg (fun h => by have := hFi.2 h; omega), if_neg (by omega), if_neg (fun h => ?_)] at hs
   ·exact hs
   ·rcases (hB a).1 h with ⟨h1, h2⟩ | h1 | h1
    ·rcases f with f | f
     ·exact h1 f
     ·rw [f] at h2; cases h2
    ·omega
    ·omega
  (simp only [go_sem] at hL ⊢)
  (repeat' (first | (with_reducible first | exact True.intro | refine And.intro ?_ ?_ | refine aBl ?_ | (refine aS 6 [] ?_; intro K hK)) | ((with_reducible first | refine aGo ?_ | refine rD (id := 14) ?_); simp only [hg, hgp, hq, e1, go_sem]) | ((with_reducible refine aCd ?_ ?_ (fun hb => ?_) (fun hb => ?_)); (iterate 2 simp only [hg, hgp, hq, e1, go_sem]); all_goals (simp only [hg, hgp, hq, e1, go_sem] at hb; try simp only [bls] at hb)) | ((iterate 6 try ((fail_if_success with_reducible refine hK _ ?_ ?_ ?_); clear hK K)); with_reducible refine hK _ ?_ ?_ ?_; rotate_left; (focus (simp only [hg, hgp, hq, e1, go_sem]; exact rfl)); clear hK K) | ((first | (with_reducible first | refine xA ?_ | refine xD ?_ | refine xO ?_ | refine xR ?_ | refine xG ?_ | refine xH ?_ | refine xM ?_) | ((with_reducible refine gA ?_); refine xA ?_) | ((with_reducible refine gD ?_); refine xD ?_) | ((with_reducible refine gG ?_); refine xG ?_)); simp only [hg, hgp, hq, e1, go_sem]) | (with_reducible refine aGs (fun hg0 => ?_) (fun hg0 => ?_) <;> first | (with_reducible first | exact aF1 hg0 | exact aF2 hg0) | (simp only [hg0, hg, hgp, hq, e1, go_sem])) | (with_reducible refine aNk ?_; intro bnil hnil; try simp only []) | exact aZ | fail))
  all_goals first | omega | skip
  ·rw [hs, if_neg (by omega), if_pos ‹C = false›]
  ·rw [hs, if_neg (by omega), if_neg (by rw [‹C = true›]; decide), if_pos (hFi.1 (by omega))]
  ·rw [hs, if_neg (by omega), if_neg (by rw [‹C = true›]; decide), if_neg (fun h => by have := hFi.2 h; omega), if_pos (by omega)]
  ·exact H6 (by omega) ‹_› (by omega) (by omega) (.inl ⟨by omega, hb.2⟩)
  ·rename_i q1
   exfalso
   rcases hb with h | h
   ·omega
   ·rw [q1.2] at h; cases h
  ·exact H6 (by omega) ‹_› (by omega) (by omega) (.inr (.inl ⟨hb.1, by omega⟩))
  ·exact H6 (by omega) ‹_› (by omega) (by omega) (.inr (.inr ⟨hb.1, by omega⟩))
  ·exact hL _ (k + 1) ⟨by omega, H0 (by omega) ‹_› (by omega) (by omega) ‹_› ‹_› hb⟩ (by (simp only [SubF, go_sem]; (try simp only [go_sem]); repeat' (first | exact True.intro | with_reducible refine And.intro ?_ ?_ | rfl | omega))) (by omega)
 ·(simp only [go_sem] at hL ⊢)
  (repeat' (first | (with_reducible first | exact True.intro | refine And.intro ?_ ?_ | refine aBl ?_ | (refine aS 6 [] ?_; intro K hK)) | ((with_reducible first | refine aGo ?_ | refine rD (id := 14) ?_); simp only [go_sem]) | ((with_reducible refine aCd ?_ ?_ (fun hb => ?_) (fun hb => ?_)); (iterate 2 simp only [go_sem]); all_goals (simp only [go_sem] at hb; try simp only [bls] at hb)) | ((iterate 6 try ((fail_if_success with_reducible refine hK _ ?_ ?_ ?_); clear hK K)); with_reducible refine hK _ ?_ ?_ ?_; rotate_left; (focus (simp only [go_sem]; exact rfl)); clear hK K) | (with_reducible refine aGs (fun hg0 => ?_) (fun hg0 => ?_) <;> first | (with_reducible first | exact aF1 hg0 | exact aF2 hg0) | (simp only [hg0, go_sem])) | (with_reducible refine aNk ?_; intro bnil hnil; try simp only []) | exact aZ | fail))
  all_goals first | omega | skip
  rw [hres, drop_end l k (by omega)]; rfl
end Go.Proofs.YtkjnjkdcpbgabaaGreatDoor
