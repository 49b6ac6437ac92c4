/-
 The law's known: the examples of the chapter.
-/
import Derived.Test.YtjldfifepbdlmaaDoorS8
import Derived.Test.YtjldfifepbdlmaaDoorS6
set_option linter.unusedSimpArgs false
set_option linter.unusedVariables false
namespace Go.Proofs.YtjldfifepbdlmaaDoor
open Go.Eng Go.RowKit
theorem graph_len {n : Net} (hi : n.init.length ≤ 1000) : ∀ nd ed, bndF n = .inr (nd, ed) → nd.length ≤ 4096 ∧ ∀ x ∈ nd, x.m.length ≤ 1000 := fun nd ed h => by
 obtain ⟨_, hN, hl⟩ := bnd_ok h
 exact ⟨hl, fun x hx => by rw [hN.len x hx]; exact hi⟩
def exN : Net := ⟨[2, 0], [⟨0, [⟨0, 1⟩], [⟨1, 1⟩]⟩]⟩
theorem grR_ex : grR (bndF (movesN 1)) = .tup [.one (.list (edgsD [⟨0, 0, 1⟩, ⟨1, 0, 2⟩, ⟨1, 1, 0⟩, ⟨2, 1, 1⟩])), .one (.list (wordsD [[2, 0], [1, 1], [0, 2]])), .one (.int .i64 0)] := by kernel_rfl
theorem bddR_ex : bddR (movesN 2) = .tup [.one (.list []), .one (.list (ints [0, 1])), .one (.bool false), .one (.int .i64 0)] := by kernel_rfl
theorem dlR_ex : dlR exN (bndF exN) = .tup [.one (.list (ints [0, 0])), .one (.bool true), .one (.int .i64 0)] := by kernel_rfl
theorem movesN_d (w : Int) : (movesN w).d = [.list [[.int .i64 2], [.int .i64 0]], .list [[.int .i64 0, .list [[.int .i64 0, .int .i64 1]], .list [[.int .i64 1, .int .i64 1]]], [.int .i64 1, .list [[.int .i64 1, .int .i64 1]], .list [[.int .i64 0, .int .i64 w]]]]] := rfl
theorem exN_d : exN.d = [.list [[.int .i64 2], [.int .i64 0]], .list [[.int .i64 0, .list [[.int .i64 0, .int .i64 1]], .list [[.int .i64 1, .int .i64 1]]]]] := rfl
set_option maxHeartbeats 8000000 in
theorem known_c : ACalls Tryd.prog 10 [] (.one (.bool true)) [] := by
 have m1 := moves_c 1
 have m2 := moves_c 2
 have g1 := Graph_c (movesN 1) (by constructor <;> decide +kernel) (by decide) (graph_len (by decide))
 have b1 := Bounded_c (movesN 2) (by constructor <;> decide +kernel) (by decide)
 have d1 := Deadlock_c exN (by constructor <;> decide +kernel) (by decide)
 rw [grR_ex] at g1
 rw [bddR_ex] at b1
 rw [dlR_ex] at d1
 have s1 := SameWords_c [[2, 0], [1, 1], [0, 2]] [[2, 0], [1, 1], [0, 2]] (by decide) (by decide)
 have s2 := SameInts_c [0, 1] [0, 1] (by decide)
 have s3 := SameInts_c [0, 0] [0, 0] (by decide)
 simp only [movesN_d, exN_d, wordsD, ints, List.map_cons, List.map_nil, decide_true] at m1 m2 g1 b1 d1 s1 s2 s3
 (refine ACalls.of_body Ty_ok mixed Tryd.func10 rfl (by kernel_rfl) Tryd.ntmps10 (by simp) (congrArg Array.toList Tryd.results10) ?_)
 simp only [slotsOf]
 (repeat' (first | (with_reducible first | exact True.intro | refine And.intro ?_ ?_ | refine awp_block ?_ | ((first | refine awp_seq1 1 [8, 3, 2, 7, 6, 4, 5, 11, 10, 9] ?_ | refine awp_seq2 1 [8, 3, 2, 7, 6, 4, 5, 11, 10, 9] ?_ | refine awp_seq3 1 [8, 3, 2, 7, 6, 4, 5, 11, 10, 9] ?_ | refine awp_seq4 1 [8, 3, 2, 7, 6, 4, 5, 11, 10, 9] ?_ | refine awp_seq 1 [8, 3, 2, 7, 6, 4, 5, 11, 10, 9] ?_); intro K hK)) | ((with_reducible first | refine awp_reg ?_ | refine awp_exit ?_ | refine awp_skip ?_ | refine likeK_i ?_ | refine otWR_i ?_); simp only [go_sem]) | (with_reducible refine awp_ret ?_; simp only [retF, retM, retL, resV, resW, retO, resAV, AV.bor, D.bor, D.bor1, D.bor0, AV.flatOwn, D.flatOwn, D.flat, AV.tagged, D.tagged, AObj.plain, go_sem]) | ((with_reducible refine awp_cond' ?_ ?_ (fun hb => ?_) (fun hb => ?_)); (simp only [go_sem]); (simp only [go_sem]); all_goals (simp only [go_sem] at hb; try simp only [bls] at hb)) | ((iterate 6 try ((fail_if_success with_reducible refine hK _ ?_ ?_ ?_); clear hK K)); with_reducible refine hK _ ?_ ?_ ?_; rotate_left; (focus (simp only [go_sem]; exact rfl)); clear hK K) | ((first | (with_reducible first | refine cA m1 ?_ | refine cA g1 ?_ | refine cA m2 ?_ | refine cA b1 ?_ | refine cA d1 ?_ | refine cA s1 ?_ | refine cA s2 ?_ | refine cA s3 ?_ | refine cD m1 ?_ | refine cD g1 ?_ | refine cD m2 ?_ | refine cD b1 ?_ | refine cD d1 ?_ | refine cD s1 ?_ | refine cD s2 ?_ | refine cD s3 ?_ | refine cO m1 ?_ | refine cO g1 ?_ | refine cO m2 ?_ | refine cO b1 ?_ | refine cO d1 ?_ | refine cO s1 ?_ | refine cO s2 ?_ | refine cO s3 ?_ | refine cR m1 ?_ | refine cR g1 ?_ | refine cR m2 ?_ | refine cR b1 ?_ | refine cR d1 ?_ | refine cR s1 ?_ | refine cR s2 ?_ | refine cR s3 ?_ | refine cG (fun hg => m1) ?_ | refine cG (fun hg => g1) ?_ | refine cG (fun hg => m2) ?_ | refine cG (fun hg => b1) ?_ | refine cG (fun hg => d1) ?_ | refine cG (fun hg => s1) ?_ | refine cG (fun hg => s2) ?_ | refine cG (fun hg => s3) ?_ | refine cH (fun hg => m1) ?_ | refine cH (fun hg => g1) ?_ | refine cH (fun hg => m2) ?_ | refine cH (fun hg => b1) ?_ | refine cH (fun hg => d1) ?_ | refine cH (fun hg => s1) ?_ | refine cH (fun hg => s2) ?_ | refine cH (fun hg => s3) ?_ | refine cM (fun hg => m1) ?_ | refine cM (fun hg => g1) ?_ | refine cM (fun hg => m2) ?_ | refine cM (fun hg => b1) ?_ | refine cM (fun hg => d1) ?_ | refine cM (fun hg => s1) ?_ | refine cM (fun hg => s2) ?_ | refine cM (fun hg => s3) ?_) | (guard_target = CallAt _ _ _ _ _ _ _ _ _ _; first | refine cA m1 ?_ | refine cA g1 ?_ | refine cA m2 ?_ | refine cA b1 ?_ | refine cA d1 ?_ | refine cA s1 ?_ | refine cA s2 ?_ | refine cA s3 ?_) | (guard_target = DCallAt _ _ _ _ _ _ _ _; first | refine cD m1 ?_ | refine cD g1 ?_ | refine cD m2 ?_ | refine cD b1 ?_ | refine cD d1 ?_ | refine cD s1 ?_ | refine cD s2 ?_ | refine cD s3 ?_) | (guard_target = GCallAt _ _ _ _ _ _ _ _ _ _ _; first | refine cG (fun hg => m1) ?_ | refine cG (fun hg => g1) ?_ | refine cG (fun hg => m2) ?_ | refine cG (fun hg => b1) ?_ | refine cG (fun hg => d1) ?_ | refine cG (fun hg => s1) ?_ | refine cG (fun hg => s2) ?_ | refine cG (fun hg => s3) ?_)); simp only [go_sem]) | (with_reducible refine gsplit_i (fun hg0 => ?_) (fun hg0 => ?_) <;> first | (with_reducible first | exact absurd hg0 Bool.false_ne_true | exact absurd hg0.symm Bool.false_ne_true) | (simp only [hg0, go_sem])) | (with_reducible refine nilK_i ?_; intro bnil hnil; try simp only []) | (omega; done) | (intro hv; (try simp only [bls] at hv); (try simp only [bls]); omega) | (intro hg; (simp only [hg, Bool.true_and, true_and, implies_true]; try (intro hg2; simp only [hg2, Bool.not_false, Bool.not_true])); done)))
 all_goals first | omega | skip
end Go.Proofs.YtjldfifepbdlmaaDoor
