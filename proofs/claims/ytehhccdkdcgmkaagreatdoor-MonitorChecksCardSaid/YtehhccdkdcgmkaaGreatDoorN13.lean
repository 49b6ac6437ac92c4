/-
  Contracts: Small, mutex, known.
-/
import Derived.Test.YtehhccdkdcgmkaaGreatDoorN12
set_option linter.unusedSimpArgs false
set_option linter.unusedVariables false
namespace Go.Proofs.YtehhccdkdcgmkaaGreatDoor
open Go.Eng Go.RowKit
def smallL (f : Nat → Int) (k : Nat) : List Int := (List.range k).map fun i => (f (i % 5)).tmod 4
theorem smallL_succ (f : Nat → Int) (k : Nat) : smallL f (k + 1) = smallL f k ++ [(f (k % 5)).tmod 4] := by simp [smallL, List.range_succ]
theorem smallL_length (f : Nat → Int) (k : Nat) : (smallL f k).length = k := by simp [smallL]
def Small (n : Net) (f : Nat → Int) (b : Int) : Con := ⟨smallL f n.init.length, b.tmod 8⟩
def I8 (x : Int) : Prop := -128 ≤ x ∧ x ≤ 127
theorem tmod_bound (x m : Int) (hm : 0 < m) : -m < x.tmod m ∧ x.tmod m < m := by
  have h1 := Int.tmod_lt_of_pos x hm
  have h2 := Int.lt_tmod_of_pos x hm
  exact ⟨h2, h1⟩
theorem wrap8_mod (x m : Int) (hm : 0 < m) (hm2 : m < 100) : IntKind.i8.wrap (x.tmod m) = x.tmod m := by
  have := tmod_bound x m hm
  exact wrap_fits ((fits_i8 _).2 ⟨by omega, by omega⟩)
theorem wrap64_small (x : Int) (h : -1000000 < x ∧ x < 1000000) : IntKind.i64.wrap x = x := wrap_fits ((fits_i64 _).2 ⟨by omega, by omega⟩)
theorem tab5 (f : Nat → Int) (i : Nat) (h : i < 5) : (([D.int .i8 (f 0), D.int .i8 (f 1), D.int .i8 (f 2), D.int .i8 (f 3), D.int .i8 (f 4)]).drop i).headD .unk = D.int .i8 (f i) := by
  match i, h with
  | 0, _ => rfl
  | 1, _ => rfl
  | 2, _ => rfl
  | 3, _ => rfl
  | 4, _ => rfl
  | n + 5, h => exact absurd h (by omega)
def mutTrs (k : Nat) : List Tr := (List.range k).map fun (t : Nat) => (⟨(t : Int), [⟨(t : Int), 1⟩], [⟨(((t + 2) % 4 : Nat) : Int), 1⟩]⟩ : Tr)
theorem mutTrs_succ (k : Nat) : mutTrs (k + 1) = mutTrs k ++ [⟨(k : Int), [⟨(k : Int), 1⟩], [⟨(((k + 2) % 4 : Nat) : Int), 1⟩]⟩] := by simp [mutTrs, List.range_succ]
theorem mutTrs_length (k : Nat) : (mutTrs k).length = k := by simp [mutTrs]
def mutN : Net := ⟨[1, 1, 0, 0], mutTrs 4⟩
def mutC : Con := ⟨[0, 0, 1, 1], 1⟩
theorem mutex_c : ACalls Tryz.prog 20 [] (.tup [.agg mutN.d, .agg mutC.d]) [] := by
  (refine ACalls.of_body Ty_ok mixed Tryz.func20 rfl (by kernel_rfl) Tryz.ntmps20 (by simp) (congrArg Array.toList Tryz.results20) ?_)
  simp only [slotsOf]
  (repeat' (first | exact True.intro | with_reducible refine And.intro ?_ ?_ | (guard_target = awp _ _ _ _ _; first | ((with_reducible first | refine awp_seq1 4 [] ?_ | refine awp_seq2 4 [] ?_ | refine awp_seq3 4 [] ?_ | refine awp_seq4 4 [] ?_ | refine awp_seq 4 [] ?_); intro K hK) | (with_reducible refine awp_reg ?_; simp only [go_sem]) | with_reducible refine awp_block ?_ | (with_reducible refine awp_exit ?_; simp only [go_sem]) | (with_reducible refine awp_ret ?_; simp only [retF, retM, retL, resV, resW, retO, resAV, AV.bor, D.bor, D.bor1, D.bor0, AV.flatOwn, D.flatOwn, D.flat, AV.tagged, D.tagged, AObj.plain, go_sem]) | (with_reducible refine awp_skip ?_; simp only [go_sem]) | (with_reducible refine awp_cond' ?_ ?_ (fun hb => ?_) (fun hb => ?_); (simp only [AV.theB, go_sem]); (simp only [go_sem]); all_goals (simp only [AV.theB, go_sem] at hb; try simp only [bls] at hb)) | (with_reducible refine awp_drw (by kernel_rfl) ?_ ?_; (focus (simp only [hasEff, isEff, Bool.or_self, Bool.false_or, Bool.or_false]; done)); simp only [go_sem]) | (with_reducible refine awp_drwX (is := ?_) (hd := ?_) (tl := ?_) ?_ ?_ ?_; rotate_left 3; (focus (with_unfolding_all rfl)); (focus (kernel_rfl)); simp only [List.reverse_cons, List.reverse_nil, List.nil_append, List.cons_append, Nat.zero_add, Nat.reduceAdd]; simp only [go_sem])) | (with_reducible refine gsplit_i (fun hg0 => ?_) (fun hg0 => ?_) <;> first | (with_reducible exact absurd hg0 Bool.false_ne_true) | (with_reducible exact absurd hg0.symm Bool.false_ne_true) | (simp only [hg0, go_sem])) | (with_reducible refine likeK_i ?_; simp only [go_sem]) | (with_reducible refine nilK_i ?_; intro bnil hnil; (try simp only [])) | ((first | with_reducible refine hK _ ?_ ?_ ?_ | (clear hK K; first | with_reducible refine hK _ ?_ ?_ ?_ | (clear hK K; first | with_reducible refine hK _ ?_ ?_ ?_ | (clear hK K; first | with_reducible refine hK _ ?_ ?_ ?_ | (clear hK K; first | with_reducible refine hK _ ?_ ?_ ?_ | (clear hK K; first | with_reducible refine hK _ ?_ ?_ ?_ | (clear hK K; with_reducible refine hK _ ?_ ?_ ?_))))))); rotate_left; (focus (simp only [go_sem]; exact rfl)); clear hK K) | (omega; done) | (intro hv; (try simp only [bls] at hv); (try simp only [bls]); omega) | (intro hg; (simp only [hg, Bool.true_and, true_and, implies_true]; try (intro hg2; simp only [hg2, Bool.not_false, Bool.not_true])); done)))
  refine awp_loopT [.cell 3 1 54 3] _ (by simp only [go_sem]; rfl) Nat (fun k => k ≤ 4) (fun k => [(3, .one (.int .i64 k))]) (fun k => [.var 25 [.nil, .nil], .var 27 [.nil, .int .i64 0], .row 3 1 (ints [1, 1, 0, 0]), .var 25 [.own 2, .own 4], .row 54 3 (trsD (mutTrs k))]) (fun k => 4 - k) 0 (by omega) ?_ ?_
  · have e0 : trsD (mutTrs 0) = [] := rfl
    rw [e0]
    (simp only [SubF, go_sem]; (try simp only [go_sem]); repeat' (first | exact True.intro | with_reducible refine And.intro ?_ ?_ | rfl | omega))
  · rintro k hk L hL
    have hl := mutTrs_length k
    by_cases hlt : k < 4
    · have w : ((k : Int) + 2).tmod 4 = ((k : Int) + 2) % 4 := Int.tmod_eq_emod_of_nonneg (by omega)
      have e1 : trsD (mutTrs (k + 1)) = trsD (mutTrs k) ++ [[.int .i64 k, .list [[.int .i64 k, .int .i64 1]], .list [[.int .i64 (((k : Int) + 2) % 4), .int .i64 1]]]] := by
        rw [mutTrs_succ, ← trs_append, trsD_one]; rfl
      (simp only [go_sem] at hL ⊢)
      (repeat' (first | exact True.intro | with_reducible refine And.intro ?_ ?_ | (guard_target = awp _ _ _ _ _; first | ((with_reducible first | refine awp_seq1 4 [] ?_ | refine awp_seq2 4 [] ?_ | refine awp_seq3 4 [] ?_ | refine awp_seq4 4 [] ?_ | refine awp_seq 4 [] ?_); intro K hK) | (with_reducible refine awp_reg ?_; simp only [w, go_sem]) | with_reducible refine awp_block ?_ | (with_reducible refine awp_exit ?_; simp only [w, go_sem]) | (with_reducible refine awp_ret ?_; simp only [retF, retM, retL, resV, resW, retO, resAV, AV.bor, D.bor, D.bor1, D.bor0, AV.flatOwn, D.flatOwn, D.flat, AV.tagged, D.tagged, AObj.plain, w, go_sem]) | (with_reducible refine awp_skip ?_; simp only [w, go_sem]) | (with_reducible refine awp_cond' ?_ ?_ (fun hb => ?_) (fun hb => ?_); (simp only [AV.theB, w, go_sem]); (simp only [w, go_sem]); all_goals (simp only [AV.theB, w, go_sem] at hb; try simp only [bls] at hb)) | (with_reducible refine awp_drw (by kernel_rfl) ?_ ?_; (focus (simp only [hasEff, isEff, Bool.or_self, Bool.false_or, Bool.or_false]; done)); simp only [w, go_sem]) | (with_reducible refine awp_drwX (is := ?_) (hd := ?_) (tl := ?_) ?_ ?_ ?_; rotate_left 3; (focus (with_unfolding_all rfl)); (focus (kernel_rfl)); simp only [List.reverse_cons, List.reverse_nil, List.nil_append, List.cons_append, Nat.zero_add, Nat.reduceAdd]; simp only [w, go_sem])) | (with_reducible refine gsplit_i (fun hg0 => ?_) (fun hg0 => ?_) <;> first | (with_reducible exact absurd hg0 Bool.false_ne_true) | (with_reducible exact absurd hg0.symm Bool.false_ne_true) | (simp only [hg0, w, go_sem])) | (with_reducible refine likeK_i ?_; simp only [w, go_sem]) | (with_reducible refine nilK_i ?_; intro bnil hnil; (try simp only [])) | ((first | with_reducible refine hK _ ?_ ?_ ?_ | (clear hK K; first | with_reducible refine hK _ ?_ ?_ ?_ | (clear hK K; first | with_reducible refine hK _ ?_ ?_ ?_ | (clear hK K; first | with_reducible refine hK _ ?_ ?_ ?_ | (clear hK K; first | with_reducible refine hK _ ?_ ?_ ?_ | (clear hK K; first | with_reducible refine hK _ ?_ ?_ ?_ | (clear hK K; with_reducible refine hK _ ?_ ?_ ?_))))))); rotate_left; (focus (simp only [w, go_sem]; exact rfl)); clear hK K) | (omega; done) | (intro hv; (try simp only [bls] at hv); (try simp only [bls]); omega) | (intro hg; (simp only [hg, Bool.true_and, true_and, implies_true]; try (intro hg2; simp only [hg2, Bool.not_false, Bool.not_true])); done)))
      all_goals first | omega | skip
      rw [← e1]
      exact hL _ (k + 1) (by omega) (by (simp only [SubF, go_sem]; (try simp only [go_sem]); repeat' (first | exact True.intro | with_reducible refine And.intro ?_ ?_ | rfl | omega))) (by omega)
    · have hk2 : k = 4 := by omega
      subst hk2
      (simp only [go_sem] at hL ⊢)
      (repeat' (first | exact True.intro | with_reducible refine And.intro ?_ ?_ | (guard_target = awp _ _ _ _ _; first | ((with_reducible first | refine awp_seq1 4 [] ?_ | refine awp_seq2 4 [] ?_ | refine awp_seq3 4 [] ?_ | refine awp_seq4 4 [] ?_ | refine awp_seq 4 [] ?_); intro K hK) | (with_reducible refine awp_reg ?_; simp only [go_sem]) | with_reducible refine awp_block ?_ | (with_reducible refine awp_exit ?_; simp only [go_sem]) | (with_reducible refine awp_ret ?_; simp only [retF, retM, retL, resV, resW, retO, resAV, AV.bor, D.bor, D.bor1, D.bor0, AV.flatOwn, D.flatOwn, D.flat, AV.tagged, D.tagged, AObj.plain, go_sem]) | (with_reducible refine awp_skip ?_; simp only [go_sem]) | (with_reducible refine awp_cond' ?_ ?_ (fun hb => ?_) (fun hb => ?_); (simp only [AV.theB, go_sem]); (simp only [go_sem]); all_goals (simp only [AV.theB, go_sem] at hb; try simp only [bls] at hb)) | (with_reducible refine awp_drw (by kernel_rfl) ?_ ?_; (focus (simp only [hasEff, isEff, Bool.or_self, Bool.false_or, Bool.or_false]; done)); simp only [go_sem]) | (with_reducible refine awp_drwX (is := ?_) (hd := ?_) (tl := ?_) ?_ ?_ ?_; rotate_left 3; (focus (with_unfolding_all rfl)); (focus (kernel_rfl)); simp only [List.reverse_cons, List.reverse_nil, List.nil_append, List.cons_append, Nat.zero_add, Nat.reduceAdd]; simp only [go_sem])) | (with_reducible refine gsplit_i (fun hg0 => ?_) (fun hg0 => ?_) <;> first | (with_reducible exact absurd hg0 Bool.false_ne_true) | (with_reducible exact absurd hg0.symm Bool.false_ne_true) | (simp only [hg0, go_sem])) | (with_reducible refine likeK_i ?_; simp only [go_sem]) | (with_reducible refine nilK_i ?_; intro bnil hnil; (try simp only [])) | ((first | with_reducible refine hK _ ?_ ?_ ?_ | (clear hK K; first | with_reducible refine hK _ ?_ ?_ ?_ | (clear hK K; first | with_reducible refine hK _ ?_ ?_ ?_ | (clear hK K; first | with_reducible refine hK _ ?_ ?_ ?_ | (clear hK K; first | with_reducible refine hK _ ?_ ?_ ?_ | (clear hK K; first | with_reducible refine hK _ ?_ ?_ ?_ | (clear hK K; with_reducible refine hK _ ?_ ?_ ?_))))))); rotate_left; (focus (simp only [go_sem]; exact rfl)); clear hK K) | (omega; done) | (intro hv; (try simp only [bls] at hv); (try simp only [bls]); omega) | (intro hg; (simp only [hg, Bool.true_and, true_and, implies_true]; try (intro hg2; simp only [hg2, Bool.not_false, Bool.not_true])); done)))
      all_goals first | omega | rfl | skip
end Go.Proofs.YtehhccdkdcgmkaaGreatDoor
