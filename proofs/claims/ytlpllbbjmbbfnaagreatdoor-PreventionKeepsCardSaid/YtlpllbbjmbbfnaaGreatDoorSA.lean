/-
 Contracts: Reverse of a net.
-/
import Derived.Test.YtlpllbbjmbbfnaaGreatDoorS8
set_option linter.unusedSimpArgs false
set_option linter.unusedVariables false
namespace Go.Proofs.YtlpllbbjmbbfnaaGreatDoor
open Go.Eng Go.RowKit
def revT (t : Tr) : Tr := ⟨t.event, t.out, t.inn⟩
def revN (n : Net) : Net := ⟨n.init, n.trs.map revT⟩
def Net.zero' : Net := ⟨[], []⟩
def rvR (n : Net) : AV := if netE n ≠ 0 then .tup [.agg Net.zero'.d, .one (.int .i64 (netE n))] else .tup [.agg (revN n).d, .one (.int .i64 0)]
set_option maxHeartbeats 8000000 in
theorem RevNet_c (n : Net) (hf : n.Fits) : ACalls Tryz.prog 81 [.agg n.d] (rvR n) [] := by
 have h1 := netCheck_c n hf
 by_cases hE : netE n = 0
 ·have hn := netOk_of hE
  have ht10 := hn.trs
  rw [hE] at h1
  rw [rvR, if_neg (by omega)]
  have e : (revN n).d = [.list (ints n.init), .list (trsD (n.trs.map revT))] := rfl
  rw [e]
  have hC := ACalls.frozen (CloneInts_c n.init hf.init)
  simp only [Net.d] at h1
  (refine ACalls.of_body Ty_ok mixed Tryz.func81 rfl (by kernel_rfl) Tryz.ntmps81 (by simp) (congrArg Array.toList Tryz.results81) ?_)
  simp only [slotsOf, Net.d]
  (repeat' (first | (with_reducible first | exact True.intro | refine And.intro ?_ ?_ | refine aBl ?_ | ((first | refine aS1 8 [20, 19, 21] ?_ | refine aS2 8 [20, 19, 21] ?_ | refine aS3 8 [20, 19, 21] ?_ | refine aS4 8 [20, 19, 21] ?_ | refine aSq 8 [20, 19, 21] ?_); intro K hK)) | ((with_reducible first | refine aRg ?_ | refine aEx ?_ | refine aSk ?_ | refine aRt ?_ | refine aLk ?_ | refine aOt ?_ | refine rP Ty_ok mixed 8 [0, 2, 4, 7] [.mid [pe 1, pe 3, pe 5, ⟨6, 0, true, false, false, [], []⟩, ⟨8, 1, false, false, false, [0], []⟩, ⟨9, 1, true, false, false, [], []⟩, ⟨10, 2, false, false, false, [], []⟩, ⟨11, 2, false, false, false, [], []⟩] 2, .one 12, .one 13, .one 14] ?_); simp only [go_sem]) | ((with_reducible refine aCd ?_ ?_ (fun hb => ?_) (fun hb => ?_)); (simp only [go_sem]); (simp only [go_sem]); all_goals (simp only [go_sem] at hb; try simp only [bls] at hb)) | ((iterate 6 try ((fail_if_success with_reducible refine hK _ ?_ ?_ ?_); clear hK K)); with_reducible refine hK _ ?_ ?_ ?_; rotate_left; (focus (simp only [go_sem]; exact rfl)); clear hK K) | ((first | (with_reducible first | refine cA (by assumption) ?_ | refine cD (by assumption) ?_ | refine cO (by assumption) ?_ | refine cR (by assumption) ?_ | refine cG (fun hg => (by assumption)) ?_ | refine cH (fun hg => (by assumption)) ?_ | refine cM (fun hg => (by assumption)) ?_) | (guard_target = CallAt _ _ _ _ _ _ _ _ _ _; refine cA (by assumption) ?_) | (guard_target = DCallAt _ _ _ _ _ _ _ _; refine cD (by assumption) ?_) | (guard_target = GCallAt _ _ _ _ _ _ _ _ _ _ _; refine cG (fun hg => (by assumption)) ?_)); simp only [go_sem]) | (with_reducible refine aGs (fun hg0 => ?_) (fun hg0 => ?_) <;> first | (with_reducible first | exact aF1 hg0 | exact aF2 hg0) | (simp only [hg0, go_sem])) | (with_reducible refine aNk ?_; intro bnil hnil; try simp only []) | (omega; done) | (intro hv; (try simp only [bls] at hv); (try simp only [bls]); omega) | (intro hg; (simp only [hg, Bool.true_and, true_and, implies_true]; try (intro hg2; simp only [hg2, Bool.not_false, Bool.not_true])); done)))
  all_goals first | omega | skip
  refine awp_loopT [.cell 2 1 79 3] _ (by simp only [go_sem]; rfl) Nat (fun k => k ≤ n.trs.length) (fun k => [(21, .one (.int .i64 k))]) (fun k => [.var 33 [.list (ints n.init), .list (trsD n.trs)], .var 33 [.nil, .nil], .var 33 [.list (ints n.init), .own 3], .row 79 3 (trsD ((n.trs.take k).map revT))]) (fun k => n.trs.length - k) 0 (by omega) ?_ ?_
  ·have e0 : trsD ((n.trs.take 0).map revT) = [] := rfl
   rw [e0]
   (simp only [SubF, go_sem]; (try simp only [go_sem]); repeat' (first | exact True.intro | with_reducible refine And.intro ?_ ?_ | rfl | omega))
  ·rintro k hk L hL
   have hp : ((k : Nat) : Int).toNat = k := by omega
   have hml : ((n.trs.take k).map revT).length = k := by rw [List.length_map, List.length_take]; omega
   by_cases hlt : k < n.trs.length
   ·have hg := trs_get hlt [.int .i64 0, .nil, .nil]
    have hmem := getD_mem n.trs k Tr.no hlt
    have hc1 := ACalls.frozen (CloneArcs_c (n.trs.getD k Tr.no).inn (hf.inn _ hmem))
    have hc2 := ACalls.frozen (CloneArcs_c (n.trs.getD k Tr.no).out (hf.out _ hmem))
    have e1 : trsD ((n.trs.take (k + 1)).map revT) = trsD ((n.trs.take k).map revT) ++ [[.int .i64 (n.trs.getD k Tr.no).event, .list (arcsD (n.trs.getD k Tr.no).out), .list (arcsD (n.trs.getD k Tr.no).inn)]] := by
     rw [take_succ_getD n.trs k Tr.no hlt, List.map_append, ← trs_append]; rfl
    generalize n.trs.getD k Tr.no = t at *
    (simp only [go_sem] at hL ⊢)
    (repeat' (first | (with_reducible first | exact True.intro | refine And.intro ?_ ?_ | refine aBl ?_ | ((first | refine aS1 8 [20, 19, 21] ?_ | refine aS2 8 [20, 19, 21] ?_ | refine aS3 8 [20, 19, 21] ?_ | refine aS4 8 [20, 19, 21] ?_ | refine aSq 8 [20, 19, 21] ?_); intro K hK)) | ((with_reducible first | refine aRg ?_ | refine aEx ?_ | refine aSk ?_ | refine aRt ?_ | refine aLk ?_ | refine aOt ?_ | refine rP Ty_ok mixed 8 [0, 2, 4, 7] [.mid [pe 1, pe 3, pe 5, ⟨6, 0, true, false, false, [], []⟩, ⟨8, 1, false, false, false, [0], []⟩, ⟨9, 1, true, false, false, [], []⟩, ⟨10, 2, false, false, false, [], []⟩, ⟨11, 2, false, false, false, [], []⟩] 2, .one 12, .one 13, .one 14] ?_); simp only [hg, hp, go_sem]) | ((with_reducible refine aCd ?_ ?_ (fun hb => ?_) (fun hb => ?_)); (simp only [hg, hp, go_sem]); (simp only [hg, hp, go_sem]); all_goals (simp only [hg, hp, go_sem] at hb; try simp only [bls] at hb)) | ((iterate 6 try ((fail_if_success with_reducible refine hK _ ?_ ?_ ?_); clear hK K)); with_reducible refine hK _ ?_ ?_ ?_; rotate_left; (focus (simp only [hg, hp, go_sem]; exact rfl)); clear hK K) | ((first | (with_reducible first | refine cA (by assumption) ?_ | refine cD (by assumption) ?_ | refine cO (by assumption) ?_ | refine cR (by assumption) ?_ | refine cG (fun hg => (by assumption)) ?_ | refine cH (fun hg => (by assumption)) ?_ | refine cM (fun hg => (by assumption)) ?_) | (guard_target = CallAt _ _ _ _ _ _ _ _ _ _; refine cA (by assumption) ?_) | (guard_target = DCallAt _ _ _ _ _ _ _ _; refine cD (by assumption) ?_) | (guard_target = GCallAt _ _ _ _ _ _ _ _ _ _ _; refine cG (fun hg => (by assumption)) ?_)); simp only [hg, hp, go_sem]) | (with_reducible refine aGs (fun hg0 => ?_) (fun hg0 => ?_) <;> first | (with_reducible first | exact aF1 hg0 | exact aF2 hg0) | (simp only [hg0, hg, hp, go_sem])) | (with_reducible refine aNk ?_; intro bnil hnil; try simp only []) | (omega; done) | (intro hv; (try simp only [bls] at hv); (try simp only [bls]); omega) | (intro hg; (simp only [hg, Bool.true_and, true_and, implies_true]; try (intro hg2; simp only [hg2, Bool.not_false, Bool.not_true])); done)))
    all_goals first | omega | skip
    refine hL _ (k + 1) (by omega) ?_ (by omega)
    rw [e1]
    (simp only [SubF, go_sem]; (try simp only [go_sem]); repeat' (first | exact True.intro | with_reducible refine And.intro ?_ ?_ | rfl | omega))
   ·have hkl : k = n.trs.length := by omega
    subst hkl
    rw [List.take_length] at *
    (simp only [go_sem] at hL ⊢)
    (repeat' (first | (with_reducible first | exact True.intro | refine And.intro ?_ ?_ | refine aBl ?_ | ((first | refine aS1 8 [20, 19, 21] ?_ | refine aS2 8 [20, 19, 21] ?_ | refine aS3 8 [20, 19, 21] ?_ | refine aS4 8 [20, 19, 21] ?_ | refine aSq 8 [20, 19, 21] ?_); intro K hK)) | ((with_reducible first | refine aRg ?_ | refine aEx ?_ | refine aSk ?_ | refine aRt ?_ | refine aLk ?_ | refine aOt ?_ | refine rP Ty_ok mixed 8 [0, 2, 4, 7] [.mid [pe 1, pe 3, pe 5, ⟨6, 0, true, false, false, [], []⟩, ⟨8, 1, false, false, false, [0], []⟩, ⟨9, 1, true, false, false, [], []⟩, ⟨10, 2, false, false, false, [], []⟩, ⟨11, 2, false, false, false, [], []⟩] 2, .one 12, .one 13, .one 14] ?_); simp only [go_sem]) | ((with_reducible refine aCd ?_ ?_ (fun hb => ?_) (fun hb => ?_)); (simp only [go_sem]); (simp only [go_sem]); all_goals (simp only [go_sem] at hb; try simp only [bls] at hb)) | ((iterate 6 try ((fail_if_success with_reducible refine hK _ ?_ ?_ ?_); clear hK K)); with_reducible refine hK _ ?_ ?_ ?_; rotate_left; (focus (simp only [go_sem]; exact rfl)); clear hK K) | (with_reducible refine aGs (fun hg0 => ?_) (fun hg0 => ?_) <;> first | (with_reducible first | exact aF1 hg0 | exact aF2 hg0) | (simp only [hg0, go_sem])) | (with_reducible refine aNk ?_; intro bnil hnil; try simp only []) | (omega; done) | (intro hv; (try simp only [bls] at hv); (try simp only [bls]); omega) | (intro hg; (simp only [hg, Bool.true_and, true_and, implies_true]; try (intro hg2; simp only [hg2, Bool.not_false, Bool.not_true])); done)))
    all_goals first | omega | rfl | skip
 ·rw [rvR, if_pos hE]
  simp only [Net.d] at h1
  (refine ACalls.of_body Ty_ok mixed Tryz.func81 rfl (by kernel_rfl) Tryz.ntmps81 (by simp) (congrArg Array.toList Tryz.results81) ?_)
  simp only [slotsOf, Net.d]
  (repeat' (first | (with_reducible first | exact True.intro | refine And.intro ?_ ?_ | refine aBl ?_ | ((first | refine aS1 8 [20, 19, 21] ?_ | refine aS2 8 [20, 19, 21] ?_ | refine aS3 8 [20, 19, 21] ?_ | refine aS4 8 [20, 19, 21] ?_ | refine aSq 8 [20, 19, 21] ?_); intro K hK)) | ((with_reducible first | refine aRg ?_ | refine aEx ?_ | refine aSk ?_ | refine aRt ?_ | refine aLk ?_ | refine aOt ?_ | refine rP Ty_ok mixed 8 [0, 2, 4, 7] [.mid [pe 1, pe 3, pe 5, ⟨6, 0, true, false, false, [], []⟩, ⟨8, 1, false, false, false, [0], []⟩, ⟨9, 1, true, false, false, [], []⟩, ⟨10, 2, false, false, false, [], []⟩, ⟨11, 2, false, false, false, [], []⟩] 2, .one 12, .one 13, .one 14] ?_); simp only [go_sem]) | ((with_reducible refine aCd ?_ ?_ (fun hb => ?_) (fun hb => ?_)); (simp only [go_sem]); (simp only [go_sem]); all_goals (simp only [go_sem] at hb; try simp only [bls] at hb)) | ((iterate 6 try ((fail_if_success with_reducible refine hK _ ?_ ?_ ?_); clear hK K)); with_reducible refine hK _ ?_ ?_ ?_; rotate_left; (focus (simp only [go_sem]; exact rfl)); clear hK K) | ((first | (with_reducible first | refine cA h1 ?_ | refine cD h1 ?_ | refine cO h1 ?_ | refine cR h1 ?_ | refine cG (fun hg => h1) ?_ | refine cH (fun hg => h1) ?_ | refine cM (fun hg => h1) ?_) | (guard_target = CallAt _ _ _ _ _ _ _ _ _ _; refine cA h1 ?_) | (guard_target = DCallAt _ _ _ _ _ _ _ _; refine cD h1 ?_) | (guard_target = GCallAt _ _ _ _ _ _ _ _ _ _ _; refine cG (fun hg => h1) ?_)); simp only [go_sem]) | (with_reducible refine aGs (fun hg0 => ?_) (fun hg0 => ?_) <;> first | (with_reducible first | exact aF1 hg0 | exact aF2 hg0) | (simp only [hg0, go_sem])) | (with_reducible refine aNk ?_; intro bnil hnil; try simp only []) | (omega; done) | (intro hv; (try simp only [bls] at hv); (try simp only [bls]); omega) | (intro hg; (simp only [hg, Bool.true_and, true_and, implies_true]; try (intro hg2; simp only [hg2, Bool.not_false, Bool.not_true])); done)))
  all_goals first | omega | rfl | skip
end Go.Proofs.YtlpllbbjmbbfnaaGreatDoor
