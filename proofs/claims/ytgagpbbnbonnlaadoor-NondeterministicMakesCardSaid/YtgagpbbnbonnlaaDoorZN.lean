/-
 Chapter 05: the number of a set; meets.
-/
import Derived.Test.YtgagpbbnbonnlaaDoorZT
import Derived.Test.YtgagpbbnbonnlaaDoorZC
import Derived.Test.YtgagpbbnbonnlaaDoorE5
set_option linter.unusedSimpArgs false
set_option linter.unusedVariables false
namespace Go.Proofs.YtgagpbbnbonnlaaDoor
open Go.Eng Go.RowKit
def nuO (l : List (List Int)) : List AObj := [.var 84 [.mp 2], .var 33 [.own 3], .map .str (setsK 0 l), .row 26 1 (wordsD l)]
set_option maxHeartbeats 8000000 in
theorem numOld_c (l : List (List Int)) (s : List Int) (k : Nat) (hl : l.length ≤ 100000) (h0 : s ≠ []) (hsl : s.length ≤ 10000) (hs : ∀ x ∈ s, 0 ≤ x ∧ x ≤ 1000000) (hk : ∀ y ∈ l, ∀ z ∈ y, 0 ≤ z) (hf : fndS s 0 l = some k) :
  MCalls Tryd.prog 49 3 (nuO l) [.one (.list (ints s)), .one (.vp 0 0), .one (.vp 1 0)] (.one (.int .i64 k)) (nuO l) := by
 have c := text_c s h0 (by omega) fun x hx => by have := hs x hx; omega
 have hfk := findKV_sets (m := s) (fun y hy => (hs y hy).1) l 0 hk
 rw [hf] at hfk
 simp only [Option.map_some] at hfk
 unfold nuO
 (refine MCalls.of_body Ty_ok mixed Tryd.func49 rfl (by kernel_rfl) Tryd.ntmps49 (by simp) (congrArg Array.toList Tryd.results49) (by simp) (by simp) ?_)
 simp only [slotsOf]
 (repeat' (first | (with_reducible first | exact True.intro | refine And.intro ?_ ?_ | refine awp_block ?_ | ((first | refine awp_seq1 8 [] ?_ | refine awp_seq2 8 [] ?_ | refine awp_seq3 8 [] ?_ | refine awp_seq4 8 [] ?_ | refine awp_seq 8 [] ?_); intro K hK)) | ((with_reducible first | refine awp_reg ?_ | refine awp_exit ?_ | refine awp_skip ?_ | refine likeK_i ?_ | refine otWR_i ?_ | refine rO Ty_ok mixed 5 [1, 2, 4] (.alt 0 (.alt 3 (.alt 5 (.alt 6 (.alt 7 (.alt 8 .leaf .nil) .nil) .nil) .nil) (.alt 5 (.alt 3 (.alt 6 (.alt 7 (.alt 8 .leaf .nil) .nil) .nil) .nil) .nil)) (.alt 3 (.alt 0 (.alt 5 (.alt 6 (.alt 7 (.alt 8 .leaf .nil) .nil) .nil) .nil) (.alt 5 (.alt 0 (.alt 6 (.alt 7 (.alt 8 .leaf .nil) .nil) .nil) (.alt 6 (.alt 0 (.alt 7 (.alt 8 .leaf .nil) .nil) .nil) .nil)) .nil)) (.alt 5 (.alt 0 (.alt 3 (.alt 6 (.alt 7 (.alt 8 .leaf .nil) .nil) .nil) .nil) (.alt 3 (.alt 0 (.alt 6 (.alt 7 (.alt 8 .leaf .nil) .nil) .nil) (.alt 6 (.alt 0 (.alt 7 (.alt 8 .leaf .nil) .nil) .nil) .nil)) .nil)) .nil))) [] 6 ?_); simp only [hfk, Option.getD_some, Option.isSome_some, go_sem]) | (with_reducible refine awp_ret ?_; simp only [retF, retM, retL, resV, resW, retO, resAV, AV.bor, D.bor, D.bor1, D.bor0, AV.flatOwn, D.flatOwn, D.flat, AV.tagged, D.tagged, AObj.plain, hfk, Option.getD_some, Option.isSome_some, go_sem]) | ((with_reducible refine awp_cond' ?_ ?_ (fun hb => ?_) (fun hb => ?_)); (simp only [hfk, Option.getD_some, Option.isSome_some, go_sem]); (simp only [hfk, Option.getD_some, Option.isSome_some, go_sem]); all_goals (simp only [hfk, Option.getD_some, Option.isSome_some, go_sem] at hb; try simp only [bls] at hb)) | ((iterate 6 try ((fail_if_success with_reducible refine hK _ ?_ ?_ ?_); clear hK K)); with_reducible refine hK _ ?_ ?_ ?_; rotate_left; (focus (simp only [hfk, Option.getD_some, Option.isSome_some, go_sem]; exact rfl)); clear hK K) | ((first | (with_reducible first | refine cA c ?_ | refine cD c ?_ | refine cO c ?_ | refine cR c ?_ | refine cG (fun hg => c) ?_ | refine cH (fun hg => c) ?_ | refine cM (fun hg => c) ?_) | (guard_target = CallAt _ _ _ _ _ _ _ _ _ _; refine cA c ?_) | (guard_target = DCallAt _ _ _ _ _ _ _ _; refine cD c ?_) | (guard_target = GCallAt _ _ _ _ _ _ _ _ _ _ _; refine cG (fun hg => c) ?_)); simp only [hfk, Option.getD_some, Option.isSome_some, go_sem]) | (with_reducible refine gsplit_i (fun hg0 => ?_) (fun hg0 => ?_) <;> first | (with_reducible first | exact absurd hg0 Bool.false_ne_true | exact absurd hg0.symm Bool.false_ne_true) | (simp only [hg0, hfk, Option.getD_some, Option.isSome_some, go_sem])) | (with_reducible refine nilK_i ?_; intro bnil hnil; try simp only []) | (omega; done) | (intro hv; (try simp only [bls] at hv); (try simp only [bls]); omega) | (intro hg; (simp only [hg, Bool.true_and, true_and, implies_true]; try (intro hg2; simp only [hg2, Bool.not_false, Bool.not_true])); done)))
 all_goals ((try simp only [retF, retM, retL, resV, resW, retO, resAV, AV.bor, D.bor, D.bor1, D.bor0, AV.flatOwn, D.flatOwn, D.flat, AV.tagged, D.tagged, AObj.plain, go_sem]); repeat' (first | exact True.intro | with_reducible refine And.intro ?_ ?_ | rfl))
set_option maxHeartbeats 16000000 in
theorem numNew_c (l : List (List Int)) (s : List Int) (hl : l.length ≤ 100000) (h0 : s ≠ []) (hsl : s.length ≤ 10000) (hs : ∀ x ∈ s, 0 ≤ x ∧ x ≤ 1000000) (hk : ∀ y ∈ l, ∀ z ∈ y, 0 ≤ z) (hf : fndS s 0 l = none) :
  MCalls Tryd.prog 49 3 (nuO l) [.one (.list (ints s)), .one (.vp 0 0), .one (.vp 1 0)] (.one (.int .i64 l.length)) (nuO (l ++ [s])) := by
 have c := text_c s h0 (by omega) fun x hx => by have := hs x hx; omega
 have hfk := findKV_sets (m := s) (fun y hy => (hs y hy).1) l 0 hk
 rw [hf] at hfk
 simp only [Option.map_none] at hfk
 have hset := setKV_sets (m := s) (fun y hy => (hs y hy).1) l 0 hk hf
 rw [Nat.zero_add] at hset
 unfold nuO
 (refine MCalls.of_body Ty_ok mixed Tryd.func49 rfl (by kernel_rfl) Tryd.ntmps49 (by simp) (congrArg Array.toList Tryd.results49) (by simp) (by simp) ?_)
 simp only [slotsOf]
 (repeat' (first | (with_reducible first | exact True.intro | refine And.intro ?_ ?_ | refine awp_block ?_ | ((first | refine awp_seq1 8 [] ?_ | refine awp_seq2 8 [] ?_ | refine awp_seq3 8 [] ?_ | refine awp_seq4 8 [] ?_ | refine awp_seq 8 [] ?_); intro K hK)) | ((with_reducible first | refine awp_reg ?_ | refine awp_exit ?_ | refine awp_skip ?_ | refine likeK_i ?_ | refine otWR_i ?_ | refine rO Ty_ok mixed 5 [1, 2, 4] (.alt 0 (.alt 3 (.alt 5 (.alt 6 (.alt 7 (.alt 8 .leaf .nil) .nil) .nil) .nil) (.alt 5 (.alt 3 (.alt 6 (.alt 7 (.alt 8 .leaf .nil) .nil) .nil) .nil) .nil)) (.alt 3 (.alt 0 (.alt 5 (.alt 6 (.alt 7 (.alt 8 .leaf .nil) .nil) .nil) .nil) (.alt 5 (.alt 0 (.alt 6 (.alt 7 (.alt 8 .leaf .nil) .nil) .nil) (.alt 6 (.alt 0 (.alt 7 (.alt 8 .leaf .nil) .nil) .nil) .nil)) .nil)) (.alt 5 (.alt 0 (.alt 3 (.alt 6 (.alt 7 (.alt 8 .leaf .nil) .nil) .nil) .nil) (.alt 3 (.alt 0 (.alt 6 (.alt 7 (.alt 8 .leaf .nil) .nil) .nil) (.alt 6 (.alt 0 (.alt 7 (.alt 8 .leaf .nil) .nil) .nil) .nil)) .nil)) .nil))) [] 6 ?_); simp only [hfk, hset, words_one, words_append, Option.getD_none, Option.isSome_none, go_sem]) | (with_reducible refine awp_ret ?_; simp only [retF, retM, retL, resV, resW, retO, resAV, AV.bor, D.bor, D.bor1, D.bor0, AV.flatOwn, D.flatOwn, D.flat, AV.tagged, D.tagged, AObj.plain, hfk, hset, words_one, words_append, Option.getD_none, Option.isSome_none, go_sem]) | ((with_reducible refine awp_cond' ?_ ?_ (fun hb => ?_) (fun hb => ?_)); (simp only [hfk, hset, words_one, words_append, Option.getD_none, Option.isSome_none, go_sem]); (simp only [hfk, hset, words_one, words_append, Option.getD_none, Option.isSome_none, go_sem]); all_goals (simp only [hfk, hset, words_one, words_append, Option.getD_none, Option.isSome_none, go_sem] at hb; try simp only [bls] at hb)) | ((iterate 6 try ((fail_if_success with_reducible refine hK _ ?_ ?_ ?_); clear hK K)); with_reducible refine hK _ ?_ ?_ ?_; rotate_left; (focus (simp only [hfk, hset, words_one, words_append, Option.getD_none, Option.isSome_none, go_sem]; exact rfl)); clear hK K) | ((first | (with_reducible first | refine cA c ?_ | refine cD c ?_ | refine cO c ?_ | refine cR c ?_ | refine cG (fun hg => c) ?_ | refine cH (fun hg => c) ?_ | refine cM (fun hg => c) ?_) | (guard_target = CallAt _ _ _ _ _ _ _ _ _ _; refine cA c ?_) | (guard_target = DCallAt _ _ _ _ _ _ _ _; refine cD c ?_) | (guard_target = GCallAt _ _ _ _ _ _ _ _ _ _ _; refine cG (fun hg => c) ?_)); simp only [hfk, hset, words_one, words_append, Option.getD_none, Option.isSome_none, go_sem]) | (with_reducible refine gsplit_i (fun hg0 => ?_) (fun hg0 => ?_) <;> first | (with_reducible first | exact absurd hg0 Bool.false_ne_true | exact absurd hg0.symm Bool.false_ne_true) | (simp only [hg0, hfk, hset, words_one, words_append, Option.getD_none, Option.isSome_none, go_sem])) | (with_reducible refine nilK_i ?_; intro bnil hnil; try simp only []) | (omega; done) | (intro hv; (try simp only [bls] at hv); (try simp only [bls]); omega) | (intro hg; (simp only [hg, Bool.true_and, true_and, implies_true]; try (intro hg2; simp only [hg2, Bool.not_false, Bool.not_true])); done)))
 all_goals ((try simp only [retF, retM, retL, resV, resW, retO, resAV, AV.bor, D.bor, D.bor1, D.bor0, AV.flatOwn, D.flatOwn, D.flat, AV.tagged, D.tagged, AObj.plain, go_sem]); repeat' (first | exact True.intro | with_reducible refine And.intro ?_ ?_ | rfl))
theorem inc_len {s : List Int} {n : Nat} (h : IncI s) (hr : ∀ x ∈ s, 0 ≤ x ∧ x < n) : s.length ≤ n := by
 have e : s = selI n fun x => decide (x ∈ s) := selI_of h fun z => by
  simp only [decide_eq_true_eq]
  exact ⟨fun hz => ⟨hr z hz, hz⟩, fun hz => hz.2⟩
 rw [e]; exact selI_length _ _
theorem met_inter {a b : List Int} (ha : IncI a) (hb : IncI b) : decide (0 < ((interB a b).length : Int)) = metL a b := by
 rw [inter_filter ha hb, Bool.eq_iff_iff, decide_eq_true_eq, met_iff]
 constructor
 ·intro h
  have h1 : 0 < (a.filter fun x => decide (x ∈ b)).length := by omega
  obtain ⟨x, hx⟩ := List.exists_mem_of_ne_nil _ (List.ne_nil_of_length_pos h1)
  rw [List.mem_filter, decide_eq_true_eq] at hx
  exact ⟨x, hx⟩
 ·rintro ⟨x, h1, h2⟩
  have h3 : x ∈ a.filter fun x => decide (x ∈ b) := List.mem_filter.2 ⟨h1, decide_eq_true h2⟩
  have := List.length_pos_of_mem h3
  omega
theorem meets_c (a b : List Int) (hn : a.length + b.length ≤ 1000000) (ha : IncI a) (hb : IncI b) : ACalls Tryd.prog 52 [.one (.list (ints a)), .one (.list (ints b))] (.one (.bool (metL a b))) [] := by
 have c := Intersect_c a b hn
 rw [← met_inter ha hb]
 (refine ACalls.of_body Ty_ok mixed Tryd.func52 rfl (by kernel_rfl) Tryd.ntmps52 (by simp) (congrArg Array.toList Tryd.results52) ?_)
 simp only [slotsOf]
 (repeat' (first | (with_reducible first | exact True.intro | refine And.intro ?_ ?_ | refine awp_block ?_ | ((first | refine awp_seq1 5 [] ?_ | refine awp_seq2 5 [] ?_ | refine awp_seq3 5 [] ?_ | refine awp_seq4 5 [] ?_ | refine awp_seq 5 [] ?_); intro K hK)) | ((with_reducible first | refine awp_reg ?_ | refine awp_exit ?_ | refine awp_skip ?_ | refine likeK_i ?_ | refine otWR_i ?_); simp only [go_sem]) | (with_reducible refine awp_ret ?_; simp only [retF, retM, retL, resV, resW, retO, resAV, AV.bor, D.bor, D.bor1, D.bor0, AV.flatOwn, D.flatOwn, D.flat, AV.tagged, D.tagged, AObj.plain, go_sem]) | ((with_reducible refine awp_cond' ?_ ?_ (fun hb => ?_) (fun hb => ?_)); (simp only [go_sem]); (simp only [go_sem]); all_goals (simp only [go_sem] at hb; try simp only [bls] at hb)) | ((iterate 6 try ((fail_if_success with_reducible refine hK _ ?_ ?_ ?_); clear hK K)); with_reducible refine hK _ ?_ ?_ ?_; rotate_left; (focus (simp only [go_sem]; exact rfl)); clear hK K) | ((first | (with_reducible first | refine cA c ?_ | refine cD c ?_ | refine cO c ?_ | refine cR c ?_ | refine cG (fun hg => c) ?_ | refine cH (fun hg => c) ?_ | refine cM (fun hg => c) ?_) | (guard_target = CallAt _ _ _ _ _ _ _ _ _ _; refine cA c ?_) | (guard_target = DCallAt _ _ _ _ _ _ _ _; refine cD c ?_) | (guard_target = GCallAt _ _ _ _ _ _ _ _ _ _ _; refine cG (fun hg => c) ?_)); simp only [go_sem]) | (with_reducible refine gsplit_i (fun hg0 => ?_) (fun hg0 => ?_) <;> first | (with_reducible first | exact absurd hg0 Bool.false_ne_true | exact absurd hg0.symm Bool.false_ne_true) | (simp only [hg0, go_sem])) | (with_reducible refine nilK_i ?_; intro bnil hnil; try simp only []) | (omega; done) | (intro hv; (try simp only [bls] at hv); (try simp only [bls]); omega) | (intro hg; (simp only [hg, Bool.true_and, true_and, implies_true]; try (intro hg2; simp only [hg2, Bool.not_false, Bool.not_true])); done)))
def NA.no : NA := ⟨[], 0, [], [], []⟩
structure AU where
 alpha : List Int
 states : Int
 marked : List Int
 edges : List Ed
 deriving DecidableEq
def AU.d (a : AU) : List D := [.list (ints a.alpha), .int .i64 a.states, .list (ints a.marked), .list (edD a.edges)]
def AU.no : AU := ⟨[], 0, [], []⟩
def detAV (a : NA) : Option (List (List Int) × List Int × List Ed) → AV
 | none => .tup [.agg AU.no.d, .one (.list []), .one (.int .i64 3)]
 | some r => .tup [.agg (AU.d ⟨a.alpha, r.1.length, r.2.1, r.2.2⟩), .one (.list (wordsD r.1)), .one (.int .i64 0)]
theorem drop_len {α : Type} (l : List α) (k : Nat) (h : l.length ≤ k) : l.drop k = [] := List.drop_of_length_le h
theorem ints_snoc (l : List Int) (z : Int) : ints l ++ [[D.int .i64 z]] = ints (l ++ [z]) := by simp [ints]
theorem eds_snoc (l : List Ed) (a b c : Int) : edD l ++ [[D.int .i64 a, D.int .i64 b, D.int .i64 c]] = edD (l ++ [⟨a, b, c⟩]) := by rw [← eds_append]; rfl
structure DGood (a : NA) (n : Nat) : Prop extends Good a n where
 ok : NaOk a
 al : a.alpha.length ≤ 32
theorem DGood.tn {a : NA} {n : Nat} (h : DGood a n) : a.states.toNat = n := by have := h.st; omega
end Go.Proofs.YtgagpbbnbonnlaaDoor
