/-
 Contracts of chapter 51's law: tasks, what they open.
-/
import Derived.Test.YtlpllbbjmbbfnaaGreatDoorQM0
set_option linter.unusedSimpArgs false
set_option linter.unusedVariables false
namespace Go.Proofs.YtlpllbbjmbbfnaaGreatDoor
open Go.Eng Go.RowKit
theorem wrap_u16 (z : Int) (h0 : 0 ≤ z) (h1 : z < 65536) : IntKind.u16.wrap z = z := by
 have : IntKind.u16.wrap z = z % 65536 := rfl
 rw [this]; omega
theorem and_u16 (a b : Nat) (ha : a < 65536) (hb : b < 65536) : bitV .and .u16 (a : Int) (b : Int) = ((a &&& b : Nat) : Int) := by
 have hlt : a &&& b < 65536 := Nat.lt_of_le_of_lt Nat.and_le_left ha
 have e : (BitVec.ofInt IntKind.u16.bits (a : Int) &&& BitVec.ofInt IntKind.u16.bits (b : Int)).toNat = a &&& b := by
  rw [ofInt_nat, ofInt_nat, BitVec.toNat_and, BitVec.toNat_ofNat, BitVec.toNat_ofNat]
  show (a % 65536) &&& (b % 65536) = _
  rw [Nat.mod_eq_of_lt ha, Nat.mod_eq_of_lt hb]
 simp only [bitV, e]
 exact wrap_u16 _ (by omega) (by omega)
theorem bit_u16 (m k : Nat) (hm : m < 65536) (hk : k < 16) : bitV .and .u16 ((m : Int).fdiv (2 ^ min k 16)) 1 = 1 ↔ m.testBit k = true := by
 rw [Nat.min_eq_left (by omega), fdiv_nat, show (1 : Int) = ((1 : Nat) : Int) from rfl, and_u16 _ _ (Nat.lt_of_le_of_lt (Nat.div_le_self _ _) hm) (by omega), Nat.testBit_eq_decide_div_mod_eq, decide_eq_true_iff, Nat.and_one_is_mod]
 generalize m / 2 ^ k = q
 omega
set_option maxHeartbeats 4000000 in
theorem part_c (n b : Nat) (hn : n ≤ 16) (hbb : b < 65536) : ACalls Tryz.prog 38 [.one (.int .i64 n), .one (.int .u16 b)] (.one (.list (ints (bitsL b n)))) [] := by
 (refine ACalls.of_body Ty_ok mixed Tryz.func38 rfl (by kernel_rfl) Tryz.ntmps38 (by simp) (congrArg Array.toList Tryz.results38) ?_)
 simp only [slotsOf]
 (repeat' (first | (with_reducible first | exact True.intro | refine And.intro ?_ ?_ | refine aBl ?_ | (refine aS 7 [] ?_; intro K hK)) | ((with_reducible first | refine aGo ?_); simp only [go_sem]) | ((with_reducible refine aCd ?_ ?_ (fun hb => ?_) (fun hb => ?_)); (iterate 2 simp only [go_sem]); all_goals (simp only [go_sem] at hb; try simp only [bls] at hb)) | ((iterate 6 try ((fail_if_success with_reducible refine hK _ ?_ ?_ ?_); clear hK K)); with_reducible refine hK _ ?_ ?_ ?_; rotate_left; (focus (simp only [go_sem]; exact rfl)); clear hK K) | (with_reducible refine aGs (fun hg0 => ?_) (fun hg0 => ?_) <;> first | (with_reducible first | exact aF1 hg0 | exact aF2 hg0) | (simp only [hg0, go_sem])) | (with_reducible refine aNk ?_; intro bnil hnil; try simp only []) | exact aZ | fail))
 all_goals first | omega | skip
 refine awp_loop _ (by simp only [go_sem]; rfl) Nat (fun k => k ≤ n) (fun k => [(5, .one (.own 1)), (6, .one (.int .i64 k))]) (fun k _ => [.row 3 1 [], .row 3 1 (ints (bitsL b k))]) (fun k => n - k) 0 (by omega) ?_ ?_
 ·have e0 : ints (bitsL b 0) = [] := rfl
  rw [e0]
  (simp only [SubF, go_sem]; (try simp only [go_sem]); repeat' (first | exact True.intro | with_reducible refine And.intro ?_ ?_ | rfl | omega))
 rintro k hk L hL
 have hbl := bitsL_length b k
 by_cases hlt : k < n
 ·have hbit := bit_u16 b k hbb (by omega)
  have e2 := bitsL_succ b k
  (simp only [go_sem] at hL ⊢)
  (repeat' (first | (with_reducible first | exact True.intro | refine And.intro ?_ ?_ | refine aBl ?_ | (refine aS 7 [] ?_; intro K hK)) | ((with_reducible first | refine aGo ?_); simp only [go_sem]) | ((with_reducible refine aCd ?_ ?_ (fun hb => ?_) (fun hb => ?_)); (iterate 2 simp only [go_sem]); all_goals (simp only [go_sem] at hb; try simp only [bls] at hb)) | ((iterate 6 try ((fail_if_success with_reducible refine hK _ ?_ ?_ ?_); clear hK K)); with_reducible refine hK _ ?_ ?_ ?_; rotate_left; (focus (simp only [go_sem]; exact rfl)); clear hK K) | (with_reducible refine aGs (fun hg0 => ?_) (fun hg0 => ?_) <;> first | (with_reducible first | exact aF1 hg0 | exact aF2 hg0) | (simp only [hg0, go_sem])) | (with_reducible refine aNk ?_; intro bnil hnil; try simp only []) | exact aZ | fail))
  all_goals first | omega | skip
  ·rw [hbit] at hb
   rw [if_pos hb] at e2
   simp only [ints_one, ints_append, ← e2]
   exact hL _ (k + 1) (by omega) (by (simp only [SubF, go_sem]; (try simp only [go_sem]); repeat' (first | exact True.intro | with_reducible refine And.intro ?_ ?_ | rfl | omega))) (by omega)
  ·rw [hbit] at hb
   rw [if_neg hb, List.append_nil] at e2
   simp only [← e2]
   exact hL _ (k + 1) (by omega) (by (simp only [SubF, go_sem]; (try simp only [go_sem]); repeat' (first | exact True.intro | with_reducible refine And.intro ?_ ?_ | rfl | omega))) (by omega)
 ·have : k = n := by omega
  subst this
  (simp only [go_sem] at hL ⊢)
  (repeat' (first | (with_reducible first | exact True.intro | refine And.intro ?_ ?_ | refine aBl ?_ | (refine aS 7 [] ?_; intro K hK)) | ((with_reducible first | refine aGo ?_); simp only [go_sem]) | ((with_reducible refine aCd ?_ ?_ (fun hb => ?_) (fun hb => ?_)); (iterate 2 simp only [go_sem]); all_goals (simp only [go_sem] at hb; try simp only [bls] at hb)) | ((iterate 6 try ((fail_if_success with_reducible refine hK _ ?_ ?_ ?_); clear hK K)); with_reducible refine hK _ ?_ ?_ ?_; rotate_left; (focus (simp only [go_sem]; exact rfl)); clear hK K) | (with_reducible refine aGs (fun hg0 => ?_) (fun hg0 => ?_) <;> first | (with_reducible first | exact aF1 hg0 | exact aF2 hg0) | (simp only [hg0, go_sem])) | (with_reducible refine aNk ?_; intro bnil hnil; try simp only []) | exact aZ | fail))
  all_goals first | omega | skip
def fairB (n : Net) : Bool := match bndF n with
 | .inl e => decide (e = 23)
 | .inr (nd, _) => decide ((nd.length : Int) ≤ 60)
theorem fair_c (n : Net) (hf : n.Fits) (h0 : n.init ≠ []) : ACalls Tryz.prog 11 [.agg n.d] (.one (.bool (fairB n))) [] := by
 have hG := Graph_c n hf h0 fun nd ed h => by
  obtain ⟨q1, q2, q3⟩ := bnd_ok h
  have := q1.init
  exact ⟨q3, fun x hx => by have := q2.len x hx; omega⟩
 have hnz := fun e => bnd_ne (n := n) (e := e)
 have hok := fun nd ed => bnd_ok (n := n) (nd := nd) (ed := ed)
 rw [fairB]
 simp only [Net.d] at hG
 generalize bndF n = B at *
 cases B with
 | inl e =>
  have hnz := hnz e rfl
  simp only [grR] at hG
  (refine ACalls.of_body Ty_ok mixed Tryz.func11 rfl (by kernel_rfl) Tryz.ntmps11 (by simp) (congrArg Array.toList Tryz.results11) ?_)
  simp only [slotsOf, Net.d]
  (repeat' (first | (with_reducible first | exact True.intro | refine And.intro ?_ ?_ | refine aBl ?_ | (refine aS 3 [5, 4] ?_; intro K hK)) | ((with_reducible first | refine aGo ?_); simp only [go_sem]) | ((with_reducible refine aCd ?_ ?_ (fun hb => ?_) (fun hb => ?_)); (iterate 2 simp only [go_sem]); all_goals (simp only [go_sem] at hb; try simp only [bls] at hb)) | ((iterate 6 try ((fail_if_success with_reducible refine hK _ ?_ ?_ ?_); clear hK K)); with_reducible refine hK _ ?_ ?_ ?_; rotate_left; (focus (simp only [go_sem]; exact rfl)); clear hK K) | ((first | (with_reducible first | refine xA ?_ | refine xD ?_ | refine xO ?_ | refine xR ?_ | refine xG ?_ | refine xH ?_ | refine xM ?_) | ((with_reducible refine gA ?_); refine xA ?_) | ((with_reducible refine gD ?_); refine xD ?_) | ((with_reducible refine gG ?_); refine xG ?_)); simp only [go_sem]) | (with_reducible refine aGs (fun hg0 => ?_) (fun hg0 => ?_) <;> first | (with_reducible first | exact aF1 hg0 | exact aF2 hg0) | (simp only [hg0, go_sem])) | (with_reducible refine aNk ?_; intro bnil hnil; try simp only []) | exact aZ | fail))
  all_goals first | omega | skip
  have hz : (e == 0) = false := by simpa using hnz
  rw [hz, Bool.or_false]
  rfl
 | inr r =>
  obtain ⟨nd, ed⟩ := r
  obtain ⟨_, _, hl⟩ := hok nd ed rfl
  simp only [grR] at hG
  (refine ACalls.of_body Ty_ok mixed Tryz.func11 rfl (by kernel_rfl) Tryz.ntmps11 (by simp) (congrArg Array.toList Tryz.results11) ?_)
  simp only [slotsOf, Net.d]
  (repeat' (first | (with_reducible first | exact True.intro | refine And.intro ?_ ?_ | refine aBl ?_ | (refine aS 3 [5, 4] ?_; intro K hK)) | ((with_reducible first | refine aGo ?_); simp only [List.length_map, go_sem]) | ((with_reducible refine aCd ?_ ?_ (fun hb => ?_) (fun hb => ?_)); (iterate 2 simp only [List.length_map, go_sem]); all_goals (simp only [List.length_map, go_sem] at hb; try simp only [bls] at hb)) | ((iterate 6 try ((fail_if_success with_reducible refine hK _ ?_ ?_ ?_); clear hK K)); with_reducible refine hK _ ?_ ?_ ?_; rotate_left; (focus (simp only [List.length_map, go_sem]; exact rfl)); clear hK K) | ((first | (with_reducible first | refine xA ?_ | refine xD ?_ | refine xO ?_ | refine xR ?_ | refine xG ?_ | refine xH ?_ | refine xM ?_) | ((with_reducible refine gA ?_); refine xA ?_) | ((with_reducible refine gD ?_); refine xD ?_) | ((with_reducible refine gG ?_); refine xG ?_)); simp only [List.length_map, go_sem]) | (with_reducible refine aGs (fun hg0 => ?_) (fun hg0 => ?_) <;> first | (with_reducible first | exact aF1 hg0 | exact aF2 hg0) | (simp only [hg0, List.length_map, go_sem])) | (with_reducible refine aNk ?_; intro bnil hnil; try simp only []) | exact aZ | fail))
  all_goals first | omega | skip
theorem TableO_c : ACalls Tryz.prog 65 [] (.agg [.own 0, .own 1]) [.row 3 1 (ints [1, 0, 0, 1, 0, 0]), .row 79 3 (trsD (tabN 1).trs)] := by
 have h1 := tableO_c
 generalize trsD (tabN 1).trs = X at *
 (refine ACalls.of_body_twoC Ty_ok mixed Tryz.func65 rfl (by kernel_rfl) Tryz.ntmps65 (by simp) (congrArg Array.toList Tryz.results65) ?_)
 simp only [slotsOf]
 (repeat' (first | (with_reducible first | exact True.intro | refine And.intro ?_ ?_ | refine aBl ?_ | (refine aS 1 [] ?_; intro K hK)) | ((with_reducible first | refine aGo ?_); simp only [go_sem]) | ((with_reducible refine aCd ?_ ?_ (fun hb => ?_) (fun hb => ?_)); (iterate 2 simp only [go_sem]); all_goals (simp only [go_sem] at hb; try simp only [bls] at hb)) | ((iterate 6 try ((fail_if_success with_reducible refine hK _ ?_ ?_ ?_); clear hK K)); with_reducible refine hK _ ?_ ?_ ?_; rotate_left; (focus (simp only [go_sem]; exact rfl)); clear hK K) | ((first | (with_reducible first | refine xA ?_ | refine xD ?_ | refine xO ?_ | refine xR ?_ | refine xG ?_ | refine xH ?_ | refine xM ?_) | ((with_reducible refine gA ?_); refine xA ?_) | ((with_reducible refine gD ?_); refine xD ?_) | ((with_reducible refine gG ?_); refine xG ?_)); simp only [go_sem]) | (with_reducible refine aGs (fun hg0 => ?_) (fun hg0 => ?_) <;> first | (with_reducible first | exact aF1 hg0 | exact aF2 hg0) | (simp only [hg0, go_sem])) | (with_reducible refine aNk ?_; intro bnil hnil; try simp only []) | exact aZ | fail))
 all_goals first | omega | skip
def chooseN (s : Nat → Int) (b : Bool) : Net := if b then tabN (1 + s 2 % 2) else makeNet s
set_option maxHeartbeats 4000000 in
theorem Choose_c (s : Nat → Int) (hs : Bytes s) (b : Bool) : ACalls Tryz.prog 37 [.agg (bytesD 37 s), .one (.bool b)] (.agg (chooseN s b).d) [] := by
 cases b with
 | false =>
  have h1 := Make_c s hs
  have e : chooseN s false = makeNet s := rfl
  rw [e]
  simp only [Net.d] at h1 ⊢
  (refine ACalls.of_body Ty_ok mixed Tryz.func37 rfl (by kernel_rfl) Tryz.ntmps37 (by simp) (congrArg Array.toList Tryz.results37) ?_)
  simp only [slotsOf]
  (repeat' (first | (with_reducible first | exact True.intro | refine And.intro ?_ ?_ | refine aBl ?_ | (refine aS 6 [] ?_; intro K hK)) | ((with_reducible first | refine aGo ?_ | refine rP Ty_ok mixed 4 [0, 4] [.mid [pe 1, pe 2, pe 3, pe 5, pe 6, pe 7, pe 8, pe 9, pe 10] 0, .one 11] ?_); simp only [go_sem]) | ((with_reducible refine aCd ?_ ?_ (fun hb => ?_) (fun hb => ?_)); (iterate 2 simp only [go_sem]); all_goals (simp only [go_sem] at hb; try simp only [bls] at hb)) | ((iterate 6 try ((fail_if_success with_reducible refine hK _ ?_ ?_ ?_); clear hK K)); with_reducible refine hK _ ?_ ?_ ?_; rotate_left; (focus (simp only [go_sem]; exact rfl)); clear hK K) | ((first | (with_reducible first | refine xA ?_ | refine xD ?_ | refine xO ?_ | refine xR ?_ | refine xG ?_ | refine xH ?_ | refine xM ?_) | ((with_reducible refine gA ?_); refine xA ?_) | ((with_reducible refine gD ?_); refine xD ?_) | ((with_reducible refine gG ?_); refine xG ?_)); simp only [go_sem]) | (with_reducible refine aGs (fun hg0 => ?_) (fun hg0 => ?_) <;> first | (with_reducible first | exact aF1 hg0 | exact aF2 hg0) | (simp only [hg0, go_sem])) | (with_reducible refine aNk ?_; intro bnil hnil; try simp only []) | exact aZ | fail))
  all_goals first | omega | skip
 | true =>
  have h1 := TableO_c
  have e : (chooseN s true).d = [.list (ints [1 + s 2 % 2, 0, 0, 1, 0, 0]), .list (trsD (tabN 1).trs)] := rfl
  have b2 := bytesD_at 37 s 2 (by omega)
  have w2 : (s 2).tmod 2 = s 2 % 2 := Int.tmod_eq_emod_of_nonneg (hs 2).1
  have hs2 := hs 2
  have wk : IntKind.i64.wrap (s 2 % 2) = s 2 % 2 := wrap_fits ((fits_i64 _).2 ⟨by omega, by omega⟩)
  rw [e]
  generalize trsD (tabN 1).trs = X at *
  simp only [ints, List.map_cons, List.map_nil] at h1 ⊢
  (refine ACalls.of_body Ty_ok mixed Tryz.func37 rfl (by kernel_rfl) Tryz.ntmps37 (by simp) (congrArg Array.toList Tryz.results37) ?_)
  simp only [slotsOf]
  (repeat' (first | (with_reducible first | exact True.intro | refine And.intro ?_ ?_ | refine aBl ?_ | (refine aS 6 [] ?_; intro K hK)) | ((with_reducible first | refine aGo ?_ | refine rP Ty_ok mixed 4 [0, 4] [.mid [pe 1, pe 2, pe 3, pe 5, pe 6, pe 7, pe 8, pe 9, pe 10] 0, .one 11] ?_); simp only [b2, w2, wk, go_sem]) | ((with_reducible refine aCd ?_ ?_ (fun hb => ?_) (fun hb => ?_)); (iterate 2 simp only [b2, w2, wk, go_sem]); all_goals (simp only [b2, w2, wk, go_sem] at hb; try simp only [bls] at hb)) | ((iterate 6 try ((fail_if_success with_reducible refine hK _ ?_ ?_ ?_); clear hK K)); with_reducible refine hK _ ?_ ?_ ?_; rotate_left; (focus (simp only [b2, w2, wk, go_sem]; exact rfl)); clear hK K) | ((first | (with_reducible first | refine xA ?_ | refine xD ?_ | refine xO ?_ | refine xR ?_ | refine xG ?_ | refine xH ?_ | refine xM ?_) | ((with_reducible refine gA ?_); refine xA ?_) | ((with_reducible refine gD ?_); refine xD ?_) | ((with_reducible refine gG ?_); refine xG ?_)); simp only [b2, w2, wk, go_sem]) | (with_reducible refine aGs (fun hg0 => ?_) (fun hg0 => ?_) <;> first | (with_reducible first | exact aF1 hg0 | exact aF2 hg0) | (simp only [hg0, b2, w2, wk, go_sem])) | (with_reducible refine aNk ?_; intro bnil hnil; try simp only []) | exact aZ | fail))
  all_goals first | omega | skip
def taskU (s : Nat → Int) (b : Bool) (u : Nat) : List Int := bitsL u (chooseN s b).trs.length
theorem task_take (s : Nat → Int) (X : List D) : (bytesD 37 s ++ X).take 37 = bytesD 37 s := by
 rw [List.take_append_of_le_length (by rw [bytesD_length]; decide), List.take_of_length_le (by rw [bytesD_length]; decide)]
theorem task_drop (s : Nat → Int) (X : List D) (k : Nat) : (bytesD 37 s ++ X).drop (37 + k) = X.drop k := by
 rw [List.drop_append, bytesD_length, List.drop_of_length_le (by rw [bytesD_length]; omega), List.nil_append, show 37 + k - 37 = k by omega]
theorem task_len (s : Nat → Int) (X : List D) : (bytesD 37 s ++ X).length = 37 + X.length := by rw [List.length_append, bytesD_length]
set_option maxHeartbeats 8000000 in
theorem open_c (s : Nat → Int) (hs : Bytes s) (b : Bool) (u : Nat) (hu : u < 65536) (hn : (chooseN s b).trs.length ≤ 16) : ACalls Tryz.prog 10 [.agg (bytesD 37 s ++ [.bool b, .int .u16 u])] (.tup [.agg (chooseN s b).d, .one (.list (ints (taskU s b u)))]) [] := by
 have h1 := Choose_c s hs b
 have h2 := part_c (chooseN s b).trs.length u hn hu
 have t1 := task_take s [.bool b, .int .u16 u]
 have t2 := task_drop s [.bool b, .int .u16 u] 0
 have t3 := task_drop s [.bool b, .int .u16 u] 1
 have t4 := task_len s [.bool b, .int .u16 u]
 simp only [List.length_cons, List.length_nil, Nat.reduceAdd, List.drop_zero, List.drop_succ_cons] at t2 t3 t4
 rw [taskU]
 generalize chooseN s b = n at *
 simp only [Net.d] at *
 (refine ACalls.of_body Ty_ok mixed Tryz.func10 rfl (by kernel_rfl) Tryz.ntmps10 (by simp) (congrArg Array.toList Tryz.results10) ?_)
 simp only [slotsOf]
 (repeat' (first | (with_reducible first | exact True.intro | refine And.intro ?_ ?_ | refine aBl ?_ | (refine aS 5 [] ?_; intro K hK)) | ((with_reducible first | refine aGo ?_ | refine rP Ty_ok mixed 2 [1, 4] [.mid [pe 0, pe 2, pe 3, pe 5, ⟨6, 0, true, false, false, [], []⟩] 1, .one 7, .one 8] ?_); simp only [t1, t2, t3, t4, go_sem]) | ((with_reducible refine aCd ?_ ?_ (fun hb => ?_) (fun hb => ?_)); (iterate 2 simp only [t1, t2, t3, t4, go_sem]); all_goals (simp only [t1, t2, t3, t4, go_sem] at hb; try simp only [bls] at hb)) | ((iterate 6 try ((fail_if_success with_reducible refine hK _ ?_ ?_ ?_); clear hK K)); with_reducible refine hK _ ?_ ?_ ?_; rotate_left; (focus (simp only [t1, t2, t3, t4, go_sem]; exact rfl)); clear hK K) | ((first | (with_reducible first | refine xA ?_ | refine xD ?_ | refine xO ?_ | refine xR ?_ | refine xG ?_ | refine xH ?_ | refine xM ?_) | ((with_reducible refine gA ?_); refine xA ?_) | ((with_reducible refine gD ?_); refine xD ?_) | ((with_reducible refine gG ?_); refine xG ?_)); simp only [t1, t2, t3, t4, go_sem]) | (with_reducible refine aGs (fun hg0 => ?_) (fun hg0 => ?_) <;> first | (with_reducible first | exact aF1 hg0 | exact aF2 hg0) | (simp only [hg0, t1, t2, t3, t4, go_sem])) | (with_reducible refine aNk ?_; intro bnil hnil; try simp only []) | exact aZ | fail))
 all_goals first | omega | skip
end Go.Proofs.YtlpllbbjmbbfnaaGreatDoor
