/-
 Chapter 05: spread, closure, step.
-/
import Derived.Test.YtgagpbbnbonnlaaDoorZB
set_option linter.unusedSimpArgs false
set_option linter.unusedVariables false
namespace Go.Proofs.YtgagpbbnbonnlaaDoor
open Go.Eng Go.RowKit
def bD (l : List Bool) : List (List D) := l.map fun b => [.bool b]
theorem bD_length (l : List Bool) : (bD l).length = l.length := by simp [bD]
theorem bD_getD (l : List Bool) (k : Nat) : (bD l).getD k [.bool false] = [.bool (l.getD k false)] := by
 simp only [bD, List.getD, List.getElem?_map]
 cases l[k]? <;> rfl
theorem bD_at {l : List Bool} {k : Nat} (hk : k < l.length) (z : List D) : (bD l).getD k z = [.bool (l.getD k false)] := by
 simp only [bD, List.getD, List.getElem?_map, List.getElem?_eq_getElem hk]; rfl
theorem bD_sz (l : List Bool) : (∀ r : List D, r ∈ bD l → r.length = 1) ↔ True := ⟨fun _ => trivial, fun _ r hr => by obtain ⟨e, _, rfl⟩ := List.mem_map.1 hr; rfl⟩
theorem bD_rep (n : Nat) : List.replicate n [D.bool false] = bD (List.replicate n false) := by simp [bD]
theorem bD_set (l : List Bool) (k : Nat) (b : Bool) : (bD l).set k [.bool b] = bD (l.set k b) := by simp [bD]
attribute [go_sem] bD_length bD_getD bD_sz
theorem ints_at {l : List Int} {k : Nat} (h : k < l.length) : (ints l).getD k [] = [.int .i64 (l.getD k 0)] := by
 simp [ints, List.getD, List.getElem?_eq_getElem h]
theorem ints_take (l : List Int) (k : Nat) : (ints l).take k = ints (l.take k) := by simp [ints]
structure LeadOk (n : Nat) (lead : Int → List Int) : Prop where
 rng : ∀ x : Int, 0 ≤ x → x < n → ∀ y ∈ lead x, 0 ≤ y ∧ y < n
 len : ∀ x, (lead x).length ≤ 1000
theorem CloneBig_c (xs : List Int) (hn : xs.length ≤ 5000000) : ACalls Tryd.prog 48 [.one (.list (ints xs))] (.one (.own 0)) [.row 3 1 (ints xs)] := by
 (refine ACalls.of_body_own Ty_ok mixed Tryd.func48 rfl (by kernel_rfl) Tryd.ntmps48 (by simp) (congrArg Array.toList Tryd.results48) ?_)
 simp only [slotsOf]
 (repeat' (first | (with_reducible first | exact True.intro | refine And.intro ?_ ?_ | refine awp_block ?_ | ((first | refine awp_seq1 3 [] ?_ | refine awp_seq2 3 [] ?_ | refine awp_seq3 3 [] ?_ | refine awp_seq4 3 [] ?_ | refine awp_seq 3 [] ?_); intro K hK)) | ((with_reducible first | refine awp_reg ?_ | refine awp_exit ?_ | refine awp_skip ?_ | refine likeK_i ?_ | refine otWR_i ?_); simp only [go_sem]) | (with_reducible refine awp_ret ?_; simp only [retF, retM, retL, resV, resW, retO, resAV, AV.bor, D.bor, D.bor1, D.bor0, AV.flatOwn, D.flatOwn, D.flat, AV.tagged, D.tagged, AObj.plain, go_sem]) | ((with_reducible refine awp_cond' ?_ ?_ (fun hb => ?_) (fun hb => ?_)); (simp only [go_sem]); (simp only [go_sem]); all_goals (simp only [go_sem] at hb; try simp only [bls] at hb)) | ((iterate 6 try ((fail_if_success with_reducible refine hK _ ?_ ?_ ?_); clear hK K)); with_reducible refine hK _ ?_ ?_ ?_; rotate_left; (focus (simp only [go_sem]; exact rfl)); clear hK K) | (with_reducible refine gsplit_i (fun hg0 => ?_) (fun hg0 => ?_) <;> first | (with_reducible first | exact absurd hg0 Bool.false_ne_true | exact absurd hg0.symm Bool.false_ne_true) | (simp only [hg0, go_sem])) | (with_reducible refine nilK_i ?_; intro bnil hnil; try simp only []) | (omega; done) | (intro hv; (try simp only [bls] at hv); (try simp only [bls]); omega) | (intro hg; (simp only [hg, Bool.true_and, true_and, implies_true]; try (intro hg2; simp only [hg2, Bool.not_false, Bool.not_true])); done)))
 rw [hnil hb]
theorem snoc_of {l : List Int} (h : 0 < l.length) : ∃ t x, l = t ++ [x] := by
 rcases List.eq_nil_or_concat l with h0 | ⟨t, x, h1⟩
 ·rw [h0] at h; simp at h
 ·exact ⟨t, x, by simpa using h1⟩
theorem snoc_len (t : List Int) (x : Int) : ((((t ++ [x]).length : Nat) : Int) - 1).toNat = t.length := by simp
theorem snoc_last (t : List Int) (x : Int) : (t ++ [x]).getD t.length 0 = x := by simp [List.getD]
theorem snoc_take (t : List Int) (x : Int) : (t ++ [x]).take t.length = t := by simp
theorem snoc_length (t : List Int) (x : Int) : (t ++ [x]).length = t.length + 1 := by simp
set_option maxHeartbeats 16000000 in
theorem spread_c (n : Nat) (s : List Int) (f : FuncId) (row : List D) (lead : Int → List Int) (hn : n ≤ 4096) (hsl : s.length ≤ 5000000) (hs : ∀ x ∈ s, 0 ≤ x ∧ x < n) (hl : LeadOk n lead)
  (hp : ∀ x : Int, 0 ≤ x → x < n → ACalls Tryd.prog f [.one (.int .i64 x), .one (.ref row)] (.one (.own 0)) [.row 3 1 (ints (lead x))]) :
  ACalls Tryd.prog 77 [.one (.int .i64 n), .one (.list (ints s)), .one (.clo f [.ref row])] (.one (.own 0)) [.row 3 1 (ints (closN n lead s))] := by
 have k1 := CloneBig_c s hsl
 have hmr : missing (List.replicate n false) = n := by simp [missing, List.countP_replicate]
 (refine ACalls.of_body_own Ty_ok mixed Tryd.func77 rfl (by kernel_rfl) Tryd.ntmps77 (by simp) (congrArg Array.toList Tryd.results77) ?_)
 simp only [slotsOf]
 (repeat' (first | (with_reducible first | exact True.intro | refine And.intro ?_ ?_ | refine awp_block ?_ | ((first | refine awp_seq1 13 [45, 44, 46] ?_ | refine awp_seq2 13 [45, 44, 46] ?_ | refine awp_seq3 13 [45, 44, 46] ?_ | refine awp_seq4 13 [45, 44, 46] ?_ | refine awp_seq 13 [45, 44, 46] ?_); intro K hK)) | ((with_reducible first | refine awp_reg ?_ | refine awp_exit ?_ | refine awp_skip ?_ | refine likeK_i ?_ | refine otWR_i ?_); simp only [Int.toNat_natCast, bD_rep, go_sem]) | (with_reducible refine awp_ret ?_; simp only [retF, retM, retL, resV, resW, retO, resAV, AV.bor, D.bor, D.bor1, D.bor0, AV.flatOwn, D.flatOwn, D.flat, AV.tagged, D.tagged, AObj.plain, Int.toNat_natCast, bD_rep, go_sem]) | ((with_reducible refine awp_cond' ?_ ?_ (fun hb => ?_) (fun hb => ?_)); (simp only [Int.toNat_natCast, bD_rep, go_sem]); (simp only [Int.toNat_natCast, bD_rep, go_sem]); all_goals (simp only [Int.toNat_natCast, bD_rep, go_sem] at hb; try simp only [bls] at hb)) | ((iterate 6 try ((fail_if_success with_reducible refine hK _ ?_ ?_ ?_); clear hK K)); with_reducible refine hK _ ?_ ?_ ?_; rotate_left; (focus (simp only [Int.toNat_natCast, bD_rep, go_sem]; exact rfl)); clear hK K) | ((first | (with_reducible first | refine cA k1 ?_ | refine cD k1 ?_ | refine cO k1 ?_ | refine cR k1 ?_ | refine cG (fun hg => k1) ?_ | refine cH (fun hg => k1) ?_ | refine cM (fun hg => k1) ?_) | (guard_target = CallAt _ _ _ _ _ _ _ _ _ _; refine cA k1 ?_) | (guard_target = DCallAt _ _ _ _ _ _ _ _; refine cD k1 ?_) | (guard_target = GCallAt _ _ _ _ _ _ _ _ _ _ _; refine cG (fun hg => k1) ?_)); simp only [Int.toNat_natCast, bD_rep, go_sem]) | (with_reducible refine gsplit_i (fun hg0 => ?_) (fun hg0 => ?_) <;> first | (with_reducible first | exact absurd hg0 Bool.false_ne_true | exact absurd hg0.symm Bool.false_ne_true) | (simp only [hg0, Int.toNat_natCast, bD_rep, go_sem])) | (with_reducible refine nilK_i ?_; intro bnil hnil; try simp only []) | (omega; done) | (intro hv; (try simp only [bls] at hv); (try simp only [bls]); omega) | (intro hg; (simp only [hg, Bool.true_and, true_and, implies_true]; try (intro hg2; simp only [hg2, Bool.not_false, Bool.not_true])); done)))
 all_goals first | omega | skip
 refine awp_loop _ (by simp only [go_sem]; rfl) (List Bool × List Int) (fun q => SprInv lead s n q.1 q.2 ∧ q.2.length + 1001 * missing q.1 ≤ s.length + 1001 * n) (fun q => [(8, .one (.own 2))])
  (fun q H => [.row 3 1 [], .row 4 1 (bD q.1), .row 3 1 (ints q.2)]) (fun q => q.2.length + 1001 * missing q.1) (List.replicate n false, s) ⟨SprInv.init hs, by simp only; omega⟩ ?_ ?_
 ·(simp only [SubF, go_sem]; (try simp only [go_sem]); repeat' (first | exact True.intro | with_reducible refine And.intro ?_ ?_ | rfl | omega))
 rintro ⟨m, todo⟩ ⟨hI, hM⟩ L hL
 simp only at hI hM
 have hml := hI.len
 by_cases h0 : 0 < todo.length
 ·obtain ⟨t, x, rfl⟩ := snoc_of h0
  have hx := hI.rng x (by simp)
  have e1 := snoc_len t x
  have e2 := snoc_last t x
  have e3 := snoc_take t x
  have e4 := snoc_length t x
  have hk : x.toNat < m.length := by omega
  have e5 : (ints (t ++ [x])).getD t.length [] = [D.int .i64 x] := by simp [ints, List.getD]
  have e6 := bD_at hk []
  have hll := hl.len x
  (simp only [go_sem] at hL ⊢)
  (repeat' (first | (with_reducible first | exact True.intro | refine And.intro ?_ ?_ | refine awp_block ?_ | ((first | refine awp_seq1 13 [45, 44, 46] ?_ | refine awp_seq2 13 [45, 44, 46] ?_ | refine awp_seq3 13 [45, 44, 46] ?_ | refine awp_seq4 13 [45, 44, 46] ?_ | refine awp_seq 13 [45, 44, 46] ?_); intro K hK)) | ((with_reducible first | refine awp_reg ?_ | refine awp_exit ?_ | refine awp_skip ?_ | refine likeK_i ?_ | refine otWR_i ?_); simp only [e1, e2, e3, e5, e6, ints_take, bD_set, ints_append, go_sem]) | (with_reducible refine awp_ret ?_; simp only [retF, retM, retL, resV, resW, retO, resAV, AV.bor, D.bor, D.bor1, D.bor0, AV.flatOwn, D.flatOwn, D.flat, AV.tagged, D.tagged, AObj.plain, e1, e2, e3, e5, e6, ints_take, bD_set, ints_append, go_sem]) | ((with_reducible refine awp_cond' ?_ ?_ (fun hb => ?_) (fun hb => ?_)); (simp only [e1, e2, e3, e5, e6, ints_take, bD_set, ints_append, go_sem]); (simp only [e1, e2, e3, e5, e6, ints_take, bD_set, ints_append, go_sem]); all_goals (simp only [e1, e2, e3, e5, e6, ints_take, bD_set, ints_append, go_sem] at hb; try simp only [bls] at hb)) | ((iterate 6 try ((fail_if_success with_reducible refine hK _ ?_ ?_ ?_); clear hK K)); with_reducible refine hK _ ?_ ?_ ?_; rotate_left; (focus (simp only [e1, e2, e3, e5, e6, ints_take, bD_set, ints_append, go_sem]; exact rfl)); clear hK K) | ((first | (with_reducible first | refine cA (hp x hx.1 hx.2) ?_ | refine cD (hp x hx.1 hx.2) ?_ | refine cO (hp x hx.1 hx.2) ?_ | refine cR (hp x hx.1 hx.2) ?_ | refine cG (fun hg => (hp x hx.1 hx.2)) ?_ | refine cH (fun hg => (hp x hx.1 hx.2)) ?_ | refine cM (fun hg => (hp x hx.1 hx.2)) ?_) | (guard_target = CallAt _ _ _ _ _ _ _ _ _ _; refine cA (hp x hx.1 hx.2) ?_) | (guard_target = DCallAt _ _ _ _ _ _ _ _; refine cD (hp x hx.1 hx.2) ?_) | (guard_target = GCallAt _ _ _ _ _ _ _ _ _ _ _; refine cG (fun hg => (hp x hx.1 hx.2)) ?_)); simp only [e1, e2, e3, e5, e6, ints_take, bD_set, ints_append, go_sem]) | (with_reducible refine gsplit_i (fun hg0 => ?_) (fun hg0 => ?_) <;> first | (with_reducible first | exact absurd hg0 Bool.false_ne_true | exact absurd hg0.symm Bool.false_ne_true) | (simp only [hg0, e1, e2, e3, e5, e6, ints_take, bD_set, ints_append, go_sem])) | (with_reducible refine nilK_i ?_; intro bnil hnil; try simp only []) | (omega; done) | (intro hv; (try simp only [bls] at hv); (try simp only [bls]); omega) | (intro hg; (simp only [hg, Bool.true_and, true_and, implies_true]; try (intro hg2; simp only [hg2, Bool.not_false, Bool.not_true])); done)))
  all_goals first | omega | skip
  ·have hms := missing_set hk hb
   refine hL _ (m.set x.toNat true, t ++ lead x) ⟨hI.new hl.rng, ?_⟩ (by (simp only [SubF, go_sem]; (try simp only [go_sem]); repeat' (first | exact True.intro | with_reducible refine And.intro ?_ ?_ | rfl | omega))) ?_
   ·simp only [List.length_append] at hM ⊢
    simp only [List.length_singleton] at hM
    omega
   ·simp only [List.length_append, List.length_singleton]
    omega
  ·exact hL _ (m, t) ⟨hI.old hb, by simp only; omega⟩ (by (simp only [SubF, go_sem]; (try simp only [go_sem]); repeat' (first | exact True.intro | with_reducible refine And.intro ?_ ?_ | rfl | omega))) (by simp only; omega)
 ·obtain rfl : todo = [] := List.eq_nil_of_length_eq_zero (by omega)
  have hR := hI.done hs hl.rng
  clear hI hM
  (simp only [go_sem] at hL ⊢)
  (repeat' (first | (with_reducible first | exact True.intro | refine And.intro ?_ ?_ | refine awp_block ?_ | ((first | refine awp_seq1 13 [45, 44, 46] ?_ | refine awp_seq2 13 [45, 44, 46] ?_ | refine awp_seq3 13 [45, 44, 46] ?_ | refine awp_seq4 13 [45, 44, 46] ?_ | refine awp_seq 13 [45, 44, 46] ?_); intro K hK)) | ((with_reducible first | refine awp_reg ?_ | refine awp_exit ?_ | refine awp_skip ?_ | refine likeK_i ?_ | refine otWR_i ?_); simp only [go_sem]) | (with_reducible refine awp_ret ?_; simp only [retF, retM, retL, resV, resW, retO, resAV, AV.bor, D.bor, D.bor1, D.bor0, AV.flatOwn, D.flatOwn, D.flat, AV.tagged, D.tagged, AObj.plain, go_sem]) | ((with_reducible refine awp_cond' ?_ ?_ (fun hb => ?_) (fun hb => ?_)); (simp only [go_sem]); (simp only [go_sem]); all_goals (simp only [go_sem] at hb; try simp only [bls] at hb)) | ((iterate 6 try ((fail_if_success with_reducible refine hK _ ?_ ?_ ?_); clear hK K)); with_reducible refine hK _ ?_ ?_ ?_; rotate_left; (focus (simp only [go_sem]; exact rfl)); clear hK K) | (with_reducible refine gsplit_i (fun hg0 => ?_) (fun hg0 => ?_) <;> first | (with_reducible first | exact absurd hg0 Bool.false_ne_true | exact absurd hg0.symm Bool.false_ne_true) | (simp only [hg0, go_sem])) | (with_reducible refine nilK_i ?_; intro bnil hnil; try simp only []) | (omega; done) | (intro hv; (try simp only [bls] at hv); (try simp only [bls]); omega) | (intro hg; (simp only [hg, Bool.true_and, true_and, implies_true]; try (intro hg2; simp only [hg2, Bool.not_false, Bool.not_true])); done)))
  all_goals first | omega | skip
  refine awp_loop _ (by simp only [go_sem]; rfl) Nat (fun k => k ≤ n) (fun k => [(10, .one (.own 3)), (46, .one (.int .i64 k))])
   (fun k H => [.row 3 1 [], .row 4 1 (bD m), .row 3 1 (ints []), .row 3 1 (ints (selI k fun x => m.getD x.toNat false))]) (fun k => n - k) 0 (by omega) ?_ ?_
  ·(simp only [SubF, go_sem]; (try simp only [go_sem]); repeat' (first | exact True.intro | with_reducible refine And.intro ?_ ?_ | rfl | omega))
  rintro k hk L hL
  have hq : ((k : Nat) : Int).toNat = k := by omega
  have hlen := selI_length k fun x => m.getD x.toNat false
  have e := selI_succ k fun x => m.getD x.toNat false
  rw [hq] at e
  by_cases hkn : k < n
  ·have e7 := bD_at (l := m) (k := k) (by omega) []
   (simp only [go_sem] at hL ⊢)
   (repeat' (first | (with_reducible first | exact True.intro | refine And.intro ?_ ?_ | refine awp_block ?_ | ((first | refine awp_seq1 13 [45, 44, 46] ?_ | refine awp_seq2 13 [45, 44, 46] ?_ | refine awp_seq3 13 [45, 44, 46] ?_ | refine awp_seq4 13 [45, 44, 46] ?_ | refine awp_seq 13 [45, 44, 46] ?_); intro K hK)) | ((with_reducible first | refine awp_reg ?_ | refine awp_exit ?_ | refine awp_skip ?_ | refine likeK_i ?_ | refine otWR_i ?_); simp only [hq, e7, go_sem]) | (with_reducible refine awp_ret ?_; simp only [retF, retM, retL, resV, resW, retO, resAV, AV.bor, D.bor, D.bor1, D.bor0, AV.flatOwn, D.flatOwn, D.flat, AV.tagged, D.tagged, AObj.plain, hq, e7, go_sem]) | ((with_reducible refine awp_cond' ?_ ?_ (fun hb => ?_) (fun hb => ?_)); (simp only [hq, e7, go_sem]); (simp only [hq, e7, go_sem]); all_goals (simp only [hq, e7, go_sem] at hb; try simp only [bls] at hb)) | ((iterate 6 try ((fail_if_success with_reducible refine hK _ ?_ ?_ ?_); clear hK K)); with_reducible refine hK _ ?_ ?_ ?_; rotate_left; (focus (simp only [hq, e7, go_sem]; exact rfl)); clear hK K) | (with_reducible refine gsplit_i (fun hg0 => ?_) (fun hg0 => ?_) <;> first | (with_reducible first | exact absurd hg0 Bool.false_ne_true | exact absurd hg0.symm Bool.false_ne_true) | (simp only [hg0, hq, e7, go_sem])) | (with_reducible refine nilK_i ?_; intro bnil hnil; try simp only []) | (omega; done) | (intro hv; (try simp only [bls] at hv); (try simp only [bls]); omega) | (intro hg; (simp only [hg, Bool.true_and, true_and, implies_true]; try (intro hg2; simp only [hg2, Bool.not_false, Bool.not_true])); done)))
   all_goals first | omega | skip
   ·rw [if_pos hb] at e
    simp only [ints_one, ints_append, ← e]
    exact hL _ (k + 1) (by omega) (by (simp only [SubF, go_sem]; (try simp only [go_sem]); repeat' (first | exact True.intro | with_reducible refine And.intro ?_ ?_ | rfl | omega))) (by omega)
   ·rw [if_neg (by rw [hb]; simp), List.append_nil] at e
    simp only [← e]
    exact hL _ (k + 1) (by omega) (by (simp only [SubF, go_sem]; (try simp only [go_sem]); repeat' (first | exact True.intro | with_reducible refine And.intro ?_ ?_ | rfl | omega))) (by omega)
  ·obtain rfl : k = n := by omega
   (simp only [go_sem] at hL ⊢)
   (repeat' (first | (with_reducible first | exact True.intro | refine And.intro ?_ ?_ | refine awp_block ?_ | ((first | refine awp_seq1 13 [45, 44, 46] ?_ | refine awp_seq2 13 [45, 44, 46] ?_ | refine awp_seq3 13 [45, 44, 46] ?_ | refine awp_seq4 13 [45, 44, 46] ?_ | refine awp_seq 13 [45, 44, 46] ?_); intro K hK)) | ((with_reducible first | refine awp_reg ?_ | refine awp_exit ?_ | refine awp_skip ?_ | refine likeK_i ?_ | refine otWR_i ?_); simp only [hq, go_sem]) | (with_reducible refine awp_ret ?_; simp only [retF, retM, retL, resV, resW, retO, resAV, AV.bor, D.bor, D.bor1, D.bor0, AV.flatOwn, D.flatOwn, D.flat, AV.tagged, D.tagged, AObj.plain, hq, go_sem]) | ((with_reducible refine awp_cond' ?_ ?_ (fun hb => ?_) (fun hb => ?_)); (simp only [hq, go_sem]); (simp only [hq, go_sem]); all_goals (simp only [hq, go_sem] at hb; try simp only [bls] at hb)) | ((iterate 6 try ((fail_if_success with_reducible refine hK _ ?_ ?_ ?_); clear hK K)); with_reducible refine hK _ ?_ ?_ ?_; rotate_left; (focus (simp only [hq, go_sem]; exact rfl)); clear hK K) | (with_reducible refine gsplit_i (fun hg0 => ?_) (fun hg0 => ?_) <;> first | (with_reducible first | exact absurd hg0 Bool.false_ne_true | exact absurd hg0.symm Bool.false_ne_true) | (simp only [hg0, hq, go_sem])) | (with_reducible refine nilK_i ?_; intro bnil hnil; try simp only []) | (omega; done) | (intro hv; (try simp only [bls] at hv); (try simp only [bls]); omega) | (intro hg; (simp only [hg, Bool.true_and, true_and, implies_true]; try (intro hg2; simp only [hg2, Bool.not_false, Bool.not_true])); done)))
   all_goals first | omega | skip
   rw [hR]
set_option maxHeartbeats 4000000 in
theorem clo1_c (a : NA) (x : Int) (ha : NextOk a) : ACalls Tryd.prog 78 [.one (.int .i64 x), .one (.ref a.d)] (.one (.own 0)) [.row 3 1 (ints (nextL a.edges x (-1)))] := by
 have c := next_c a x (-1) ha
 simp only [NA.d] at c
 (refine ACalls.of_body_own Ty_ok mixed Tryd.func78 rfl (by kernel_rfl) Tryd.ntmps78 (by simp) (congrArg Array.toList Tryd.results78) ?_)
 simp only [slotsOf, NA.d]
 (repeat' (first | (with_reducible first | exact True.intro | refine And.intro ?_ ?_ | refine awp_block ?_ | ((first | refine awp_seq1 4 [] ?_ | refine awp_seq2 4 [] ?_ | refine awp_seq3 4 [] ?_ | refine awp_seq4 4 [] ?_ | refine awp_seq 4 [] ?_); intro K hK)) | ((with_reducible first | refine awp_reg ?_ | refine awp_exit ?_ | refine awp_skip ?_ | refine likeK_i ?_ | refine otWR_i ?_); simp only [go_sem]) | (with_reducible refine awp_ret ?_; simp only [retF, retM, retL, resV, resW, retO, resAV, AV.bor, D.bor, D.bor1, D.bor0, AV.flatOwn, D.flatOwn, D.flat, AV.tagged, D.tagged, AObj.plain, go_sem]) | ((with_reducible refine awp_cond' ?_ ?_ (fun hb => ?_) (fun hb => ?_)); (simp only [go_sem]); (simp only [go_sem]); all_goals (simp only [go_sem] at hb; try simp only [bls] at hb)) | ((iterate 6 try ((fail_if_success with_reducible refine hK _ ?_ ?_ ?_); clear hK K)); with_reducible refine hK _ ?_ ?_ ?_; rotate_left; (focus (simp only [go_sem]; exact rfl)); clear hK K) | ((first | (with_reducible first | refine cA c ?_ | refine cD c ?_ | refine cO c ?_ | refine cR c ?_ | refine cG (fun hg => c) ?_ | refine cH (fun hg => c) ?_ | refine cM (fun hg => c) ?_) | (guard_target = CallAt _ _ _ _ _ _ _ _ _ _; refine cA c ?_) | (guard_target = DCallAt _ _ _ _ _ _ _ _; refine cD c ?_) | (guard_target = GCallAt _ _ _ _ _ _ _ _ _ _ _; refine cG (fun hg => c) ?_)); simp only [go_sem]) | (with_reducible refine gsplit_i (fun hg0 => ?_) (fun hg0 => ?_) <;> first | (with_reducible first | exact absurd hg0 Bool.false_ne_true | exact absurd hg0.symm Bool.false_ne_true) | (simp only [hg0, go_sem])) | (with_reducible refine nilK_i ?_; intro bnil hnil; try simp only []) | (omega; done) | (intro hv; (try simp only [bls] at hv); (try simp only [bls]); omega) | (intro hg; (simp only [hg, Bool.true_and, true_and, implies_true]; try (intro hg2; simp only [hg2, Bool.not_false, Bool.not_true])); done)))
 all_goals first | omega | skip
structure Good (a : NA) (n : Nat) : Prop where
 st : a.states = n
 le : n ≤ 4096
 ed : EdOk n a.edges
 fits : a.Fits
theorem Good.next {a : NA} {n : Nat} (h : Good a n) : NextOk a := ⟨h.ed.inc, fun x hx => (h.ed.dst x hx).1, h.fits.edges⟩
theorem Good.lead {a : NA} {n : Nat} (h : Good a n) (e : Int) : LeadOk n (leadE a.edges e) := ⟨leadE_rng h.ed e, fun x => Nat.le_trans (nextL_length _ _ _) h.fits.edges⟩
set_option maxHeartbeats 4000000 in
theorem closure_c (a : NA) (n : Nat) (s : List Int) (h : Good a n) (hsl : s.length ≤ 5000000) (hs : ∀ x ∈ s, 0 ≤ x ∧ x < n) : ACalls Tryd.prog 51 [.agg a.d, .one (.list (ints s))] (.one (.own 0)) [.row 3 1 (ints (closN n (leadE a.edges (-1)) s))] := by
 have c := spread_c n s 78 a.d (leadE a.edges (-1)) h.le hsl hs (h.lead (-1)) fun x _ _ => clo1_c a x h.next
 have hst := h.st
 simp only [NA.d] at c
 rw [← hst] at c
 (refine ACalls.of_body_own Ty_ok mixed Tryd.func51 rfl (by kernel_rfl) Tryd.ntmps51 (by simp) (congrArg Array.toList Tryd.results51) ?_)
 simp only [slotsOf, NA.d]
 (repeat' (first | (with_reducible first | exact True.intro | refine And.intro ?_ ?_ | refine awp_block ?_ | ((first | refine awp_seq1 5 [] ?_ | refine awp_seq2 5 [] ?_ | refine awp_seq3 5 [] ?_ | refine awp_seq4 5 [] ?_ | refine awp_seq 5 [] ?_); intro K hK)) | ((with_reducible first | refine awp_reg ?_ | refine awp_exit ?_ | refine awp_skip ?_ | refine likeK_i ?_ | refine otWR_i ?_); simp only [go_sem]) | (with_reducible refine awp_ret ?_; simp only [retF, retM, retL, resV, resW, retO, resAV, AV.bor, D.bor, D.bor1, D.bor0, AV.flatOwn, D.flatOwn, D.flat, AV.tagged, D.tagged, AObj.plain, go_sem]) | ((with_reducible refine awp_cond' ?_ ?_ (fun hb => ?_) (fun hb => ?_)); (simp only [go_sem]); (simp only [go_sem]); all_goals (simp only [go_sem] at hb; try simp only [bls] at hb)) | ((iterate 6 try ((fail_if_success with_reducible refine hK _ ?_ ?_ ?_); clear hK K)); with_reducible refine hK _ ?_ ?_ ?_; rotate_left; (focus (simp only [go_sem]; exact rfl)); clear hK K) | ((first | (with_reducible first | refine cA c ?_ | refine cD c ?_ | refine cO c ?_ | refine cR c ?_ | refine cG (fun hg => c) ?_ | refine cH (fun hg => c) ?_ | refine cM (fun hg => c) ?_) | (guard_target = CallAt _ _ _ _ _ _ _ _ _ _; refine cA c ?_) | (guard_target = DCallAt _ _ _ _ _ _ _ _; refine cD c ?_) | (guard_target = GCallAt _ _ _ _ _ _ _ _ _ _ _; refine cG (fun hg => c) ?_)); simp only [go_sem]) | (with_reducible refine gsplit_i (fun hg0 => ?_) (fun hg0 => ?_) <;> first | (with_reducible first | exact absurd hg0 Bool.false_ne_true | exact absurd hg0.symm Bool.false_ne_true) | (simp only [hg0, go_sem])) | (with_reducible refine nilK_i ?_; intro bnil hnil; try simp only []) | (omega; done) | (intro hv; (try simp only [bls] at hv); (try simp only [bls]); omega) | (intro hg; (simp only [hg, Bool.true_and, true_and, implies_true]; try (intro hg2; simp only [hg2, Bool.not_false, Bool.not_true])); done)))
 all_goals first | omega | skip
theorem flat_succ (c : List Int) (g : Int → List Int) (k : Nat) (hk : k < c.length) : (c.take (k + 1)).flatMap g = (c.take k).flatMap g ++ g (c.getD k 0) := by
 rw [take_succ_getD c k 0 hk, List.flatMap_append]; simp
theorem flat_len (c : List Int) (g : Int → List Int) (hg : ∀ x, (g x).length ≤ 1000) : (c.flatMap g).length ≤ 1000 * c.length := by
 induction c with
 | nil => simp
 | cons x c ih => simp only [List.flatMap_cons, List.length_append, List.length_cons]; have := hg x; omega
set_option maxHeartbeats 8000000 in
theorem step_c (a : NA) (n : Nat) (s : List Int) (e : Int) (h : Good a n) (hsl : s.length ≤ 5000000) (hs : ∀ x ∈ s, 0 ≤ x ∧ x < n) : ACalls Tryd.prog 53 [.agg a.d, .one (.list (ints s)), .one (.int .i64 e)] (.one (.own 0)) [.row 3 1 (ints (stepN n a.edges (-1) s e))] := by
 have c1 := closure_c a n s h hsl hs
 have hcl : (closN n (leadE a.edges (-1)) s).length ≤ n := closN_le
 have hn := h.le
 have hfr := flat_rng h.ed (closN n (leadE a.edges (-1)) s) e
 have hg : ∀ x, (nextL a.edges x e).length ≤ 1000 := fun x => Nat.le_trans (nextL_length _ _ _) h.fits.edges
 have hfl := flat_len (closN n (leadE a.edges (-1)) s) (fun x => nextL a.edges x e) hg
 have c3 := closure_c a n ((closN n (leadE a.edges (-1)) s).flatMap fun x => nextL a.edges x e) h (by omega) hfr
 have hst : stepN n a.edges (-1) s e = closN n (leadE a.edges (-1)) ((closN n (leadE a.edges (-1)) s).flatMap fun x => nextL a.edges x e) := rfl
 rw [hst]
 clear hst hfr
 generalize closN n (leadE a.edges (-1)) s = c at *
 have c2 := fun x => next_c a x e h.next
 simp only [NA.d] at c1 c2 c3
 (refine ACalls.of_body_own Ty_ok mixed Tryd.func53 rfl (by kernel_rfl) Tryd.ntmps53 (by simp) (congrArg Array.toList Tryd.results53) ?_)
 simp only [slotsOf, NA.d]
 (repeat' (first | (with_reducible first | exact True.intro | refine And.intro ?_ ?_ | refine awp_block ?_ | ((first | refine awp_seq1 10 [13, 12, 14] ?_ | refine awp_seq2 10 [13, 12, 14] ?_ | refine awp_seq3 10 [13, 12, 14] ?_ | refine awp_seq4 10 [13, 12, 14] ?_ | refine awp_seq 10 [13, 12, 14] ?_); intro K hK)) | ((with_reducible first | refine awp_reg ?_ | refine awp_exit ?_ | refine awp_skip ?_ | refine likeK_i ?_ | refine otWR_i ?_); simp only [go_sem]) | (with_reducible refine awp_ret ?_; simp only [retF, retM, retL, resV, resW, retO, resAV, AV.bor, D.bor, D.bor1, D.bor0, AV.flatOwn, D.flatOwn, D.flat, AV.tagged, D.tagged, AObj.plain, go_sem]) | ((with_reducible refine awp_cond' ?_ ?_ (fun hb => ?_) (fun hb => ?_)); (simp only [go_sem]); (simp only [go_sem]); all_goals (simp only [go_sem] at hb; try simp only [bls] at hb)) | ((iterate 6 try ((fail_if_success with_reducible refine hK _ ?_ ?_ ?_); clear hK K)); with_reducible refine hK _ ?_ ?_ ?_; rotate_left; (focus (simp only [go_sem]; exact rfl)); clear hK K) | ((first | (with_reducible first | refine cA c1 ?_ | refine cD c1 ?_ | refine cO c1 ?_ | refine cR c1 ?_ | refine cG (fun hg => c1) ?_ | refine cH (fun hg => c1) ?_ | refine cM (fun hg => c1) ?_) | (guard_target = CallAt _ _ _ _ _ _ _ _ _ _; refine cA c1 ?_) | (guard_target = DCallAt _ _ _ _ _ _ _ _; refine cD c1 ?_) | (guard_target = GCallAt _ _ _ _ _ _ _ _ _ _ _; refine cG (fun hg => c1) ?_)); simp only [go_sem]) | (with_reducible refine gsplit_i (fun hg0 => ?_) (fun hg0 => ?_) <;> first | (with_reducible first | exact absurd hg0 Bool.false_ne_true | exact absurd hg0.symm Bool.false_ne_true) | (simp only [hg0, go_sem])) | (with_reducible refine nilK_i ?_; intro bnil hnil; try simp only []) | (omega; done) | (intro hv; (try simp only [bls] at hv); (try simp only [bls]); omega) | (intro hg; (simp only [hg, Bool.true_and, true_and, implies_true]; try (intro hg2; simp only [hg2, Bool.not_false, Bool.not_true])); done)))
 all_goals first | omega | skip
 refine awp_loop _ (by simp only [go_sem]; rfl) Nat (fun k => k ≤ c.length) (fun k => [(7, .one (.own 2)), (14, .one (.int .i64 k))])
  (fun k H => [.var 29 [.list (ints a.alpha), .int .i64 a.states, .list (ints a.init), .list (ints a.marked), .list (edD a.edges)], .row 3 1 [], .row 3 1 (ints ((c.take k).flatMap fun x => nextL a.edges x e)), .row 3 1 (ints c)]) (fun k => c.length - k) 0 (by omega) ?_ ?_
 ·(simp only [SubF, go_sem]; (try simp only [go_sem]); repeat' (first | exact True.intro | with_reducible refine And.intro ?_ ?_ | rfl | omega))
 rintro k hk L hL
 have hq : ((k : Nat) : Int).toNat = k := by omega
 by_cases hlt : k < c.length
 ·have hs1 := flat_succ c (fun x => nextL a.edges x e) k hlt
  have hl1 := flat_len (c.take k) (fun x => nextL a.edges x e) hg
  have hl2 := hg (c.getD k 0)
  have hl3 : (c.take k).length ≤ c.length := by rw [List.length_take]; omega
  have e7 := ints_at (l := c) hlt
  (simp only [go_sem] at hL ⊢)
  (repeat' (first | (with_reducible first | exact True.intro | refine And.intro ?_ ?_ | refine awp_block ?_ | ((first | refine awp_seq1 10 [13, 12, 14] ?_ | refine awp_seq2 10 [13, 12, 14] ?_ | refine awp_seq3 10 [13, 12, 14] ?_ | refine awp_seq4 10 [13, 12, 14] ?_ | refine awp_seq 10 [13, 12, 14] ?_); intro K hK)) | ((with_reducible first | refine awp_reg ?_ | refine awp_exit ?_ | refine awp_skip ?_ | refine likeK_i ?_ | refine otWR_i ?_); simp only [hq, e7, ints_append, go_sem]) | (with_reducible refine awp_ret ?_; simp only [retF, retM, retL, resV, resW, retO, resAV, AV.bor, D.bor, D.bor1, D.bor0, AV.flatOwn, D.flatOwn, D.flat, AV.tagged, D.tagged, AObj.plain, hq, e7, ints_append, go_sem]) | ((with_reducible refine awp_cond' ?_ ?_ (fun hb => ?_) (fun hb => ?_)); (simp only [hq, e7, ints_append, go_sem]); (simp only [hq, e7, ints_append, go_sem]); all_goals (simp only [hq, e7, ints_append, go_sem] at hb; try simp only [bls] at hb)) | ((iterate 6 try ((fail_if_success with_reducible refine hK _ ?_ ?_ ?_); clear hK K)); with_reducible refine hK _ ?_ ?_ ?_; rotate_left; (focus (simp only [hq, e7, ints_append, go_sem]; exact rfl)); clear hK K) | ((first | (with_reducible first | refine cA (c2 (c.getD k 0)) ?_ | refine cD (c2 (c.getD k 0)) ?_ | refine cO (c2 (c.getD k 0)) ?_ | refine cR (c2 (c.getD k 0)) ?_ | refine cG (fun hg => (c2 (c.getD k 0))) ?_ | refine cH (fun hg => (c2 (c.getD k 0))) ?_ | refine cM (fun hg => (c2 (c.getD k 0))) ?_) | (guard_target = CallAt _ _ _ _ _ _ _ _ _ _; refine cA (c2 (c.getD k 0)) ?_) | (guard_target = DCallAt _ _ _ _ _ _ _ _; refine cD (c2 (c.getD k 0)) ?_) | (guard_target = GCallAt _ _ _ _ _ _ _ _ _ _ _; refine cG (fun hg => (c2 (c.getD k 0))) ?_)); simp only [hq, e7, ints_append, go_sem]) | (with_reducible refine gsplit_i (fun hg0 => ?_) (fun hg0 => ?_) <;> first | (with_reducible first | exact absurd hg0 Bool.false_ne_true | exact absurd hg0.symm Bool.false_ne_true) | (simp only [hg0, hq, e7, ints_append, go_sem])) | (with_reducible refine nilK_i ?_; intro bnil hnil; try simp only []) | (omega; done) | (intro hv; (try simp only [bls] at hv); (try simp only [bls]); omega) | (intro hg; (simp only [hg, Bool.true_and, true_and, implies_true]; try (intro hg2; simp only [hg2, Bool.not_false, Bool.not_true])); done)))
  all_goals first | omega | skip
  rw [← hs1]
  exact hL _ (k + 1) (by omega) (by (simp only [SubF, go_sem]; (try simp only [go_sem]); repeat' (first | exact True.intro | with_reducible refine And.intro ?_ ?_ | rfl | omega))) (by omega)
 ·obtain rfl : k = c.length := by omega
  rw [List.take_length]
  (simp only [go_sem] at hL ⊢)
  (repeat' (first | (with_reducible first | exact True.intro | refine And.intro ?_ ?_ | refine awp_block ?_ | ((first | refine awp_seq1 10 [13, 12, 14] ?_ | refine awp_seq2 10 [13, 12, 14] ?_ | refine awp_seq3 10 [13, 12, 14] ?_ | refine awp_seq4 10 [13, 12, 14] ?_ | refine awp_seq 10 [13, 12, 14] ?_); intro K hK)) | ((with_reducible first | refine awp_reg ?_ | refine awp_exit ?_ | refine awp_skip ?_ | refine likeK_i ?_ | refine otWR_i ?_); simp only [go_sem]) | (with_reducible refine awp_ret ?_; simp only [retF, retM, retL, resV, resW, retO, resAV, AV.bor, D.bor, D.bor1, D.bor0, AV.flatOwn, D.flatOwn, D.flat, AV.tagged, D.tagged, AObj.plain, go_sem]) | ((with_reducible refine awp_cond' ?_ ?_ (fun hb => ?_) (fun hb => ?_)); (simp only [go_sem]); (simp only [go_sem]); all_goals (simp only [go_sem] at hb; try simp only [bls] at hb)) | ((iterate 6 try ((fail_if_success with_reducible refine hK _ ?_ ?_ ?_); clear hK K)); with_reducible refine hK _ ?_ ?_ ?_; rotate_left; (focus (simp only [go_sem]; exact rfl)); clear hK K) | ((first | (with_reducible first | refine cA c3 ?_ | refine cD c3 ?_ | refine cO c3 ?_ | refine cR c3 ?_ | refine cG (fun hg => c3) ?_ | refine cH (fun hg => c3) ?_ | refine cM (fun hg => c3) ?_) | (guard_target = CallAt _ _ _ _ _ _ _ _ _ _; refine cA c3 ?_) | (guard_target = DCallAt _ _ _ _ _ _ _ _; refine cD c3 ?_) | (guard_target = GCallAt _ _ _ _ _ _ _ _ _ _ _; refine cG (fun hg => c3) ?_)); simp only [go_sem]) | (with_reducible refine gsplit_i (fun hg0 => ?_) (fun hg0 => ?_) <;> first | (with_reducible first | exact absurd hg0 Bool.false_ne_true | exact absurd hg0.symm Bool.false_ne_true) | (simp only [hg0, go_sem])) | (with_reducible refine nilK_i ?_; intro bnil hnil; try simp only []) | (omega; done) | (intro hv; (try simp only [bls] at hv); (try simp only [bls]); omega) | (intro hg; (simp only [hg, Bool.true_and, true_and, implies_true]; try (intro hg2; simp only [hg2, Bool.not_false, Bool.not_true])); done)))
  all_goals first | omega | skip
end Go.Proofs.YtgagpbbnbonnlaaDoor
