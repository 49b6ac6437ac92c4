/-
 Contracts: Small, mutex, known.
-/
import Derived.Test.YtgbhmieaoaojoaaN11
set_option linter.unusedSimpArgs false
set_option linter.unusedVariables false
namespace Go.Proofs.Ytgbhmieaoaojoaa
open Go.Eng Go.RowKit
def smallL (f : Nat → Int) (k : Nat) : List Int := (List.range k).map fun i => (f (i % 5)).tmod 4
theorem smallL_succ (f : Nat → Int) (k : Nat) : smallL f (k + 1) = smallL f k ++ [(f (k % 5)).tmod 4] := by simp [smallL, List.range_succ]
theorem smallL_length (f : Nat → Int) (k : Nat) : (smallL f k).length = k := by simp [smallL]
def Small (n : Net) (f : Nat → Int) (b : Int) : Con := ⟨smallL f n.init.length, b.tmod 8⟩
theorem tmod_bound (x m : Int) (hm : 0 < m) : -m < x.tmod m ∧ x.tmod m < m := by
 have h1 := Int.tmod_lt_of_pos x hm
 have h2 := Int.lt_tmod_of_pos x hm
 exact ⟨h2, h1⟩
theorem wrap64_small (x : Int) (h : -1000000 < x ∧ x < 1000000) : IntKind.i64.wrap x = x := wrap_fits ((fits_i64 _).2 ⟨by omega, by omega⟩)
theorem tab5 (f : Nat → Int) (i : Nat) (h : i < 5) : (([D.int .i8 (f 0), D.int .i8 (f 1), D.int .i8 (f 2), D.int .i8 (f 3), D.int .i8 (f 4)]).drop i).headD .unk = D.int .i8 (f i) := by
 match i, h with
 | 0, _ => rfl
 | 1, _ => rfl
 | 2, _ => rfl
 | 3, _ => rfl
 | 4, _ => rfl
 | n + 5, h => exact absurd h (by omega)
def mutTrs (k : Nat) : List Tr := (List.range k).map fun (t : Nat) => (⟨(t : Int), [⟨(t : Int), 1⟩], [⟨(((t + 2) % 4 : Nat) : Int), 1⟩]⟩ : Tr)
theorem mutTrs_succ (k : Nat) : mutTrs (k + 1) = mutTrs k ++ [⟨(k : Int), [⟨(k : Int), 1⟩], [⟨(((k + 2) % 4 : Nat) : Int), 1⟩]⟩] := by simp [mutTrs, List.range_succ]
theorem mutTrs_length (k : Nat) : (mutTrs k).length = k := by simp [mutTrs]
def mutN : Net := ⟨[1, 1, 0, 0], mutTrs 4⟩
def mutC : Con := ⟨[0, 0, 1, 1], 1⟩
theorem mutex_c : ACalls Try.prog 11 [] (.tup [.agg mutN.d, .agg mutC.d]) [] := by
 (refine ACalls.of_body Ty_ok mixed Try.func11 rfl (by kernel_rfl) Try.ntmps11 (by simp) (congrArg Array.toList Try.results11) ?_)
 simp only [slotsOf]
 (repeat' (first | (with_reducible first | exact True.intro | refine And.intro ?_ ?_ | refine aBl ?_ | (refine aS 4 [] ?_; intro K hK)) | ((with_reducible first | refine aGo ?_); simp only [go_sem]) | ((with_reducible refine aCd ?_ ?_ (fun hb => ?_) (fun hb => ?_)); (iterate 2 simp only [go_sem]); all_goals (simp only [go_sem] at hb; try simp only [bls] at hb)) | ((iterate 6 try ((fail_if_success with_reducible refine hK _ ?_ ?_ ?_); clear hK K)); with_reducible refine hK _ ?_ ?_ ?_; rotate_left; (focus (simp only [go_sem]; exact rfl)); clear hK K) | (with_reducible refine aGs (fun hg0 => ?_) (fun hg0 => ?_) <;> first | (with_reducible first | exact aF1 hg0 | exact aF2 hg0) | (simp only [hg0, go_sem])) | (with_reducible refine aNk ?_; intro bnil hnil; try simp only []) | exact aZ | fail))
 refine awp_loopT [.cell 3 1 58 3] _ (by simp only [go_sem]; rfl) Nat (fun k => k ≤ 4) (fun k => [(3, .one (.int .i64 k))]) (fun k => [.var 31 [.nil, .nil], .var 35 [.nil, .int .i64 0], .row 3 1 (ints [1, 1, 0, 0]), .var 31 [.own 2, .own 4], .row 58 3 (trsD (mutTrs k))]) (fun k => 4 - k) 0 (by omega) ?_ ?_
 ·have e0 : trsD (mutTrs 0) = [] := rfl
  rw [e0]
  (simp only [SubF, go_sem]; (try simp only [go_sem]); repeat' (first | exact True.intro | with_reducible refine And.intro ?_ ?_ | rfl | omega))
 ·rintro k hk L hL
  have hl := mutTrs_length k
  by_cases hlt : k < 4
  ·have w : ((k : Int) + 2).tmod 4 = ((k : Int) + 2) % 4 := Int.tmod_eq_emod_of_nonneg (by omega)
   have e1 : trsD (mutTrs (k + 1)) = trsD (mutTrs k) ++ [[.int .i64 k, .list [[.int .i64 k, .int .i64 1]], .list [[.int .i64 (((k : Int) + 2) % 4), .int .i64 1]]]] := by
    rw [mutTrs_succ, ← trs_append, trsD_one]; rfl
   (simp only [go_sem] at hL ⊢)
   (repeat' (first | (with_reducible first | exact True.intro | refine And.intro ?_ ?_ | refine aBl ?_ | (refine aS 4 [] ?_; intro K hK)) | ((with_reducible first | refine aGo ?_); simp only [w, go_sem]) | ((with_reducible refine aCd ?_ ?_ (fun hb => ?_) (fun hb => ?_)); (iterate 2 simp only [w, go_sem]); all_goals (simp only [w, go_sem] at hb; try simp only [bls] at hb)) | ((iterate 6 try ((fail_if_success with_reducible refine hK _ ?_ ?_ ?_); clear hK K)); with_reducible refine hK _ ?_ ?_ ?_; rotate_left; (focus (simp only [w, go_sem]; exact rfl)); clear hK K) | (with_reducible refine aGs (fun hg0 => ?_) (fun hg0 => ?_) <;> first | (with_reducible first | exact aF1 hg0 | exact aF2 hg0) | (simp only [hg0, w, go_sem])) | (with_reducible refine aNk ?_; intro bnil hnil; try simp only []) | exact aZ | fail))
   all_goals first | omega | skip
   rw [← e1]
   exact hL _ (k + 1) (by omega) (by (simp only [SubF, go_sem]; (try simp only [go_sem]); repeat' (first | exact True.intro | with_reducible refine And.intro ?_ ?_ | rfl | omega))) (by omega)
  ·have hk2 : k = 4 := by omega
   subst hk2
   (simp only [go_sem] at hL ⊢)
   (repeat' (first | (with_reducible first | exact True.intro | refine And.intro ?_ ?_ | refine aBl ?_ | (refine aS 4 [] ?_; intro K hK)) | ((with_reducible first | refine aGo ?_); simp only [go_sem]) | ((with_reducible refine aCd ?_ ?_ (fun hb => ?_) (fun hb => ?_)); (iterate 2 simp only [go_sem]); all_goals (simp only [go_sem] at hb; try simp only [bls] at hb)) | ((iterate 6 try ((fail_if_success with_reducible refine hK _ ?_ ?_ ?_); clear hK K)); with_reducible refine hK _ ?_ ?_ ?_; rotate_left; (focus (simp only [go_sem]; exact rfl)); clear hK K) | (with_reducible refine aGs (fun hg0 => ?_) (fun hg0 => ?_) <;> first | (with_reducible first | exact aF1 hg0 | exact aF2 hg0) | (simp only [hg0, go_sem])) | (with_reducible refine aNk ?_; intro bnil hnil; try simp only []) | exact aZ | fail))
   all_goals first | omega | rfl | skip
end Go.Proofs.Ytgbhmieaoaojoaa
