/-
 The law's known: the examples of the chapter.
-/
import Derived.Test.YtgbhmieaoaojoaaGreatDoorS8
import Derived.Test.YtgbhmieaoaojoaaGreatDoorS6
set_option linter.unusedSimpArgs false
set_option linter.unusedVariables false
namespace Go.Proofs.YtgbhmieaoaojoaaGreatDoor
open Go.Eng Go.RowKit
theorem graph_len {n : Net} (hi : n.init.length ≤ 1000) : ∀ nd ed, bndF n = .inr (nd, ed) → nd.length ≤ 4096 ∧ ∀ x ∈ nd, x.m.length ≤ 1000 := fun nd ed h => by
 obtain ⟨_, hN, hl⟩ := bnd_ok h
 exact ⟨hl, fun x hx => by rw [hN.len x hx]; exact hi⟩
def exN : Net := ⟨[2, 0], [⟨0, [⟨0, 1⟩], [⟨1, 1⟩]⟩]⟩
theorem grR_ex : grR (bndF (movesN 1)) = .tup [.one (.list (edgsD [⟨0, 0, 1⟩, ⟨1, 0, 2⟩, ⟨1, 1, 0⟩, ⟨2, 1, 1⟩])), .one (.list (wordsD [[2, 0], [1, 1], [0, 2]])), .one (.int .i64 0)] := by kernel_rfl
theorem bddR_ex : bddR (movesN 2) = .tup [.one (.list []), .one (.list (ints [0, 1])), .one (.bool false), .one (.int .i64 0)] := by kernel_rfl
theorem dlR_ex : dlR exN (bndF exN) = .tup [.one (.list (ints [0, 0])), .one (.bool true), .one (.int .i64 0)] := by kernel_rfl
theorem movesN_d (w : Int) : (movesN w).d = [.list [[.int .i64 2], [.int .i64 0]], .list [[.int .i64 0, .list [[.int .i64 0, .int .i64 1]], .list [[.int .i64 1, .int .i64 1]]], [.int .i64 1, .list [[.int .i64 1, .int .i64 1]], .list [[.int .i64 0, .int .i64 w]]]]] := rfl
theorem exN_d : exN.d = [.list [[.int .i64 2], [.int .i64 0]], .list [[.int .i64 0, .list [[.int .i64 0, .int .i64 1]], .list [[.int .i64 1, .int .i64 1]]]]] := rfl
set_option maxHeartbeats 8000000 in
theorem known47_c : ACalls Tryz.prog 26 [] (.one (.bool true)) [] := by
 have m1 := moves_c 1
 have m2 := moves_c 2
 have g1 := Graph_c (movesN 1) (by constructor <;> decide +kernel) (by decide) (graph_len (by decide))
 have b1 := Bounded_c (movesN 2) (by constructor <;> decide +kernel) (by decide)
 have d1 := Deadlock_c exN (by constructor <;> decide +kernel) (by decide)
 rw [grR_ex] at g1
 rw [bddR_ex] at b1
 rw [dlR_ex] at d1
 have s1 := SameWords_c [[2, 0], [1, 1], [0, 2]] [[2, 0], [1, 1], [0, 2]] (by decide) (by decide)
 have s2 := SameInts_c [0, 1] [0, 1] (by decide)
 have s3 := SameInts_c [0, 0] [0, 0] (by decide)
 simp only [movesN_d, exN_d, wordsD, ints, List.map_cons, List.map_nil, decide_true] at m1 m2 g1 b1 d1 s1 s2 s3
 (refine ACalls.of_body Ty_ok mixed Tryz.func26 rfl (by kernel_rfl) Tryz.ntmps26 (by simp) (congrArg Array.toList Tryz.results26) ?_)
 simp only [slotsOf]
 (repeat' (first | (with_reducible first | exact True.intro | refine And.intro ?_ ?_ | refine aBl ?_ | (refine aS 1 [8, 3, 2, 7, 6, 4, 5, 11, 10, 9] ?_; intro K hK)) | ((with_reducible first | refine aGo ?_); simp only [go_sem]) | ((with_reducible refine aCd ?_ ?_ (fun hb => ?_) (fun hb => ?_)); (iterate 2 simp only [go_sem]); all_goals (simp only [go_sem] at hb; try simp only [bls] at hb)) | ((iterate 6 try ((fail_if_success with_reducible refine hK _ ?_ ?_ ?_); clear hK K)); with_reducible refine hK _ ?_ ?_ ?_; rotate_left; (focus (simp only [go_sem]; exact rfl)); clear hK K) | ((first | (with_reducible first | refine xA ?_ | refine xD ?_ | refine xO ?_ | refine xR ?_ | refine xG ?_ | refine xH ?_ | refine xM ?_) | ((with_reducible refine gA ?_); refine xA ?_) | ((with_reducible refine gD ?_); refine xD ?_) | ((with_reducible refine gG ?_); refine xG ?_)); simp only [go_sem]) | (with_reducible refine aGs (fun hg0 => ?_) (fun hg0 => ?_) <;> first | (with_reducible first | exact aF1 hg0 | exact aF2 hg0) | (simp only [hg0, go_sem])) | (with_reducible refine aNk ?_; intro bnil hnil; try simp only []) | exact aZ | fail))
 all_goals first | omega | skip
end Go.Proofs.YtgbhmieaoaojoaaGreatDoor
