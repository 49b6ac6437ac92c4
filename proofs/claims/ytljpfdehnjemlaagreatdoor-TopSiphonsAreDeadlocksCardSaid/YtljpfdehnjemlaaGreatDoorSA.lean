/-
 Contracts: Reverse of a net.
-/
import Derived.Test.YtljpfdehnjemlaaGreatDoorS7
set_option linter.unusedSimpArgs false
set_option linter.unusedVariables false
namespace Go.Proofs.YtljpfdehnjemlaaGreatDoor
open Go.Eng Go.RowKit
theorem bnd_ok {n : Net} {nd : List SN} {ed : List Edg} (h : bndF n = .inr (nd, ed)) : NetOk n ∧ NodesOk n.init.length nd ∧ nd.length ≤ 4096 := by
 unfold bndF at h
 split at h
 ·cases h
 ·rename_i hE
  have hok := netOk_of (n := n) (by omega)
  have hS := search_ok n hok
  cases hs : searchF n 4096 with
  | err e => rw [hs] at h; cases h
  | pump a b p => rw [hs] at h; cases h
  | cont a b =>
   rw [hs] at h
   cases h
   exact ⟨hok, hS.2 _ _ hs⟩
def deadFrom (n : Net) : List SN → Nat → Int
 | [], _ => -1
 | x :: l, k => if (ableL n x.m n.trs.length).length = 0 then k else deadFrom n l (k + 1)
theorem drop_sn {l : List SN} {k : Nat} (h : k < l.length) : l.drop k = l.getD k SN.no :: l.drop (k + 1) := by
 rw [List.drop_eq_getElem_cons h, List.getD, List.getElem?_eq_getElem h]; rfl
def dlR (n : Net) : Sum Int (List SN × List Edg) → AV
 | .inl e => .tup [.one (.list []), .one (.bool false), .one (.int .i64 e)]
 | .inr (nodes, _) => if 0 ≤ deadFrom n nodes 0 then .tup [.one (.list (ints (pathF nodes (deadFrom n nodes 0)))), .one (.bool true), .one (.int .i64 0)] else .tup [.one (.list []), .one (.bool false), .one (.int .i64 0)]
set_option maxHeartbeats 8000000 in
theorem Deadlock_c (n : Net) (hf : n.Fits) (h0 : n.init ≠ []) : ACalls Tryz.prog 89 [.agg n.d] (dlR n (bndF n)) [] := by
 have h1 := bounded_c n hf h0
 have hne := fun e => bnd_ne (n := n) (e := e)
 have hok := fun nd ed => bnd_ok (n := n) (nd := nd) (ed := ed)
 generalize bndF n = B at *
 cases B with
 | inl e =>
  have hne := hne e rfl
  simp only [Net.d, bndR] at h1
  simp only [dlR]
  (refine ACalls.of_body Ty_ok mixed Tryz.func89 rfl (by kernel_rfl) Tryz.ntmps89 (by simp) (congrArg Array.toList Tryz.results89) ?_)
  simp only [slotsOf, Net.d]
  (repeat' (first | (with_reducible (refine aS 8 [20, 19, 21] ?_; intro K hK)) | ((with_reducible refine aGo ?_); simp only [go_sem]) | ((with_reducible refine aCd ?_ ?_ (fun hb => ?_) (fun hb => ?_)); (iterate 2 simp only [go_sem]); all_goals (simp only [go_sem] at hb; try simp only [bls] at hb)) | ((iterate 6 try ((fail_if_success with_reducible refine hK _ ?_ ?_ ?_); clear hK K)); with_reducible refine hK _ ?_ ?_ ?_; rotate_left; (focus (simp only [go_sem]; exact rfl)); clear hK K) | ((with_reducible refine xA ?_); simp only [go_sem]) | exact aZ | fail))
  all_goals first | omega | skip
 | inr r =>
  obtain ⟨nd, ed⟩ := r
  obtain ⟨hn, hN, hl⟩ := hok nd ed rfl
  simp only [Net.d, bndR] at h1
  simp only [dlR]
  generalize hR : (if 0 ≤ deadFrom n nd 0 then AV.tup [.one (.list (ints (pathF nd (deadFrom n nd 0)))), .one (.bool true), .one (.int .i64 0)] else .tup [.one (.list []), .one (.bool false), .one (.int .i64 0)]) = R
  (refine ACalls.of_body Ty_ok mixed Tryz.func89 rfl (by kernel_rfl) Tryz.ntmps89 (by simp) (congrArg Array.toList Tryz.results89) ?_)
  simp only [slotsOf, Net.d]
  (repeat' (first | (with_reducible first | refine aBl ?_ | (refine aS 8 [20, 19, 21] ?_; intro K hK)) | ((with_reducible refine aGo ?_); simp only [go_sem]) | ((with_reducible refine aCd ?_ ?_ (fun hb => ?_) (fun hb => ?_)); (iterate 2 simp only [go_sem]); all_goals (simp only [go_sem] at hb; try simp only [bls] at hb)) | ((iterate 6 try ((fail_if_success with_reducible refine hK _ ?_ ?_ ?_); clear hK K)); with_reducible refine hK _ ?_ ?_ ?_; rotate_left; (focus (simp only [go_sem]; exact rfl)); clear hK K) | ((with_reducible refine xA ?_); simp only [go_sem]) | fail))
  all_goals first | omega | skip
  refine awp_loop _ (by simp only [go_sem]; rfl) Nat (fun k => k ≤ nd.length ∧ deadFrom n nd 0 = deadFrom n (nd.drop k) k) (fun k => [(21, .one (.int .i64 k))]) (fun _ H => H) (fun k => nd.length - k) 0 ⟨by omega, by rw [List.drop_zero]⟩ ?_ ?_
  ·(simp only [SubF, go_sem]; (try simp only [go_sem]); repeat' (first | exact True.intro | with_reducible refine And.intro ?_ ?_ | rfl | omega))
  rintro k ⟨hk, hd⟩ L hL
  have hq : ((k : Nat) : Int).toNat = k := by omega
  by_cases hlk : k < nd.length
  ·have a1 := sns_at (l := nd) hlk [.nil, .int .i64 0, .int .i64 0]
   have a2 := sns_at (l := nd) hlk []
   rw [drop_sn hlk, deadFrom] at hd
   have hA := ACalls.frozen (able_c n (nd.getD k SN.no).m hn (hN.len _ (getD_mem nd k SN.no hlk)))
   have hP := ACalls.frozen (path_c n.init.length nd (edgsD ed) (-1) k (by omega) hN (by omega) (by omega))
   simp only [Net.d] at hA
   by_cases hz : (ableL n (nd.getD k SN.no).m n.trs.length).length = 0
   ·rw [if_pos hz] at hd
    rw [hd, if_pos (by omega)] at hR
    subst hR
    (simp only [go_sem] at hL ⊢)
    (repeat' (first | (with_reducible first | refine And.intro ?_ ?_ | refine aBl ?_ | (refine aS 8 [20, 19, 21] ?_; intro K hK)) | ((with_reducible refine aGo ?_); simp only [hq, a1, a2, go_sem]) | ((with_reducible refine aCd ?_ ?_ (fun hb => ?_) (fun hb => ?_)); (iterate 2 simp only [hq, a1, a2, go_sem]); all_goals (simp only [hq, a1, a2, go_sem] at hb; try simp only [bls] at hb)) | ((iterate 6 try ((fail_if_success with_reducible refine hK _ ?_ ?_ ?_); clear hK K)); with_reducible refine hK _ ?_ ?_ ?_; rotate_left; (focus (simp only [hq, a1, a2, go_sem]; exact rfl)); clear hK K) | ((with_reducible refine xA ?_); simp only [hq, a1, a2, go_sem]) | exact aZ | fail))
    all_goals first | omega | skip
   ·rw [if_neg hz] at hd
    (simp only [go_sem] at hL ⊢)
    (repeat' (first | (with_reducible first | refine And.intro ?_ ?_ | refine aBl ?_ | (refine aS 8 [20, 19, 21] ?_; intro K hK)) | ((with_reducible refine aGo ?_); simp only [hq, a1, a2, go_sem]) | ((with_reducible refine aCd ?_ ?_ (fun hb => ?_) (fun hb => ?_)); (iterate 2 simp only [hq, a1, a2, go_sem]); all_goals (simp only [hq, a1, a2, go_sem] at hb; try simp only [bls] at hb)) | ((iterate 6 try ((fail_if_success with_reducible refine hK _ ?_ ?_ ?_); clear hK K)); with_reducible refine hK _ ?_ ?_ ?_; rotate_left; (focus (simp only [hq, a1, a2, go_sem]; exact rfl)); clear hK K) | ((with_reducible refine xA ?_); simp only [hq, a1, a2, go_sem]) | exact aZ | fail))
    all_goals first | omega | skip
    exact hL _ (k + 1) ⟨by omega, hd⟩ (by (simp only [SubF, go_sem]; (try simp only [go_sem]); repeat' (first | exact True.intro | with_reducible refine And.intro ?_ ?_ | rfl | omega))) (by omega)
  ·have hkl : k = nd.length := by omega
   subst hkl
   rw [List.drop_length, deadFrom] at hd
   rw [hd, if_neg (by omega)] at hR
   subst hR
   (simp only [go_sem] at hL ⊢)
   (repeat' (first | (with_reducible first | refine And.intro ?_ ?_ | refine aBl ?_ | (refine aS 8 [20, 19, 21] ?_; intro K hK)) | ((with_reducible refine aGo ?_); simp only [go_sem]) | ((with_reducible refine aCd ?_ ?_ (fun hb => ?_) (fun hb => ?_)); (iterate 2 simp only [go_sem]); all_goals (simp only [go_sem] at hb; try simp only [bls] at hb)) | ((iterate 6 try ((fail_if_success with_reducible refine hK _ ?_ ?_ ?_); clear hK K)); with_reducible refine hK _ ?_ ?_ ?_; rotate_left; (focus (simp only [go_sem]; exact rfl)); clear hK K) | exact aZ | fail))
   all_goals first | omega | skip
end Go.Proofs.YtljpfdehnjemlaaGreatDoor
set_option linter.unusedSimpArgs false
set_option linter.unusedVariables false
namespace Go.Proofs.YtljpfdehnjemlaaGreatDoor
open Go.Eng Go.RowKit
def revT (t : Tr) : Tr := ⟨t.event, t.out, t.inn⟩
def revN (n : Net) : Net := ⟨n.init, n.trs.map revT⟩
def Net.zero' : Net := ⟨[], []⟩
def rvR (n : Net) : AV := if netE n ≠ 0 then .tup [.agg Net.zero'.d, .one (.int .i64 (netE n))] else .tup [.agg (revN n).d, .one (.int .i64 0)]
set_option maxHeartbeats 8000000 in
theorem RevNet_c (n : Net) (hf : n.Fits) : ACalls Tryz.prog 100 [.agg n.d] (rvR n) [] := by
 have h1 := netCheck_c n hf
 by_cases hE : netE n = 0
 ·have hn := netOk_of hE
  have ht10 := hn.trs
  rw [hE] at h1
  rw [rvR, if_neg (by omega)]
  have e : (revN n).d = [.list (ints n.init), .list (trsD (n.trs.map revT))] := rfl
  rw [e]
  have hC := ACalls.frozen (CloneInts_c n.init hf.init)
  simp only [Net.d] at h1
  (refine ACalls.of_body Ty_ok mixed Tryz.func100 rfl (by kernel_rfl) Tryz.ntmps100 (by simp) (congrArg Array.toList Tryz.results100) ?_)
  simp only [slotsOf, Net.d]
  (repeat' (first | (with_reducible first | refine aBl ?_ | (refine aS 8 [20, 19, 21] ?_; intro K hK)) | ((with_reducible refine aGo ?_); simp only [go_sem]) | ((with_reducible refine aCd ?_ ?_ (fun hb => ?_) (fun hb => ?_)); (iterate 2 simp only [go_sem]); all_goals (simp only [go_sem] at hb; try simp only [bls] at hb)) | ((iterate 6 try ((fail_if_success with_reducible refine hK _ ?_ ?_ ?_); clear hK K)); with_reducible refine hK _ ?_ ?_ ?_; rotate_left; (focus (simp only [go_sem]; exact rfl)); clear hK K) | ((with_reducible refine xA ?_); simp only [go_sem]) | fail))
  all_goals first | omega | skip
  refine awp_loopT [.cell 2 1 66 3] _ (by simp only [go_sem]; rfl) Nat (fun k => k ≤ n.trs.length) (fun k => [(21, .one (.int .i64 k))]) (fun k => [.var 32 [.list (ints n.init), .list (trsD n.trs)], .var 32 [.nil, .nil], .var 32 [.list (ints n.init), .own 3], .row 66 3 (trsD ((n.trs.take k).map revT))]) (fun k => n.trs.length - k) 0 (by omega) ?_ ?_
  ·have e0 : trsD ((n.trs.take 0).map revT) = [] := rfl
   rw [e0]
   (simp only [SubF, go_sem]; (try simp only [go_sem]); repeat' (first | exact True.intro | with_reducible refine And.intro ?_ ?_ | rfl | omega))
  ·rintro k hk L hL
   have hp : ((k : Nat) : Int).toNat = k := by omega
   have hml : ((n.trs.take k).map revT).length = k := by rw [List.length_map, List.length_take]; omega
   by_cases hlt : k < n.trs.length
   ·have hg := trs_get hlt [.int .i64 0, .nil, .nil]
    have hmem := getD_mem n.trs k Tr.no hlt
    have hc1 := ACalls.frozen (CloneArcs_c (n.trs.getD k Tr.no).inn (hf.inn _ hmem))
    have hc2 := ACalls.frozen (CloneArcs_c (n.trs.getD k Tr.no).out (hf.out _ hmem))
    have e1 : trsD ((n.trs.take (k + 1)).map revT) = trsD ((n.trs.take k).map revT) ++ [[.int .i64 (n.trs.getD k Tr.no).event, .list (arcsD (n.trs.getD k Tr.no).out), .list (arcsD (n.trs.getD k Tr.no).inn)]] := by
     rw [take_succ_getD n.trs k Tr.no hlt, List.map_append, ← trs_append]; rfl
    generalize n.trs.getD k Tr.no = t at *
    (simp only [go_sem] at hL ⊢)
    (repeat' (first | (with_reducible first | refine And.intro ?_ ?_ | refine aBl ?_ | (refine aS 8 [20, 19, 21] ?_; intro K hK)) | ((with_reducible first | refine aGo ?_ | refine rP Ty_ok mixed 8 [0, 2, 4, 7] [.mid [pe 1, pe 3, pe 5, ⟨6, 0, true, false, false, [], []⟩, ⟨8, 1, false, false, false, [0], []⟩, ⟨9, 1, true, false, false, [], []⟩, ⟨10, 2, false, false, false, [], []⟩, ⟨11, 2, false, false, false, [], []⟩] 2, .one 12, .one 13, .one 14] ?_); simp only [hg, hp, go_sem]) | ((with_reducible refine aCd ?_ ?_ (fun hb => ?_) (fun hb => ?_)); (iterate 2 simp only [hg, hp, go_sem]); all_goals (simp only [hg, hp, go_sem] at hb; try simp only [bls] at hb)) | ((iterate 6 try ((fail_if_success with_reducible refine hK _ ?_ ?_ ?_); clear hK K)); with_reducible refine hK _ ?_ ?_ ?_; rotate_left; (focus (simp only [hg, hp, go_sem]; exact rfl)); clear hK K) | ((with_reducible refine xO ?_); simp only [hg, hp, go_sem]) | exact aZ | fail))
    all_goals first | omega | skip
    refine hL _ (k + 1) (by omega) ?_ (by omega)
    rw [e1]
    (simp only [SubF, go_sem]; (try simp only [go_sem]); repeat' (first | exact True.intro | with_reducible refine And.intro ?_ ?_ | rfl | omega))
   ·have hkl : k = n.trs.length := by omega
    subst hkl
    rw [List.take_length] at *
    (simp only [go_sem] at hL ⊢)
    (repeat' (first | (with_reducible first | refine And.intro ?_ ?_ | refine aBl ?_ | (refine aS 8 [20, 19, 21] ?_; intro K hK)) | ((with_reducible first | refine aGo ?_ | refine rP Ty_ok mixed 8 [0, 2, 4, 7] [.mid [pe 1, pe 3, pe 5, ⟨6, 0, true, false, false, [], []⟩, ⟨8, 1, false, false, false, [0], []⟩, ⟨9, 1, true, false, false, [], []⟩, ⟨10, 2, false, false, false, [], []⟩, ⟨11, 2, false, false, false, [], []⟩] 2, .one 12, .one 13, .one 14] ?_); simp only [go_sem]) | ((with_reducible refine aCd ?_ ?_ (fun hb => ?_) (fun hb => ?_)); (iterate 2 simp only [go_sem]); all_goals (simp only [go_sem] at hb; try simp only [bls] at hb)) | ((iterate 6 try ((fail_if_success with_reducible refine hK _ ?_ ?_ ?_); clear hK K)); with_reducible refine hK _ ?_ ?_ ?_; rotate_left; (focus (simp only [go_sem]; exact rfl)); clear hK K) | exact aZ | fail))
    all_goals first | omega | rfl | skip
 ·rw [rvR, if_pos hE]
  simp only [Net.d] at h1
  (refine ACalls.of_body Ty_ok mixed Tryz.func100 rfl (by kernel_rfl) Tryz.ntmps100 (by simp) (congrArg Array.toList Tryz.results100) ?_)
  simp only [slotsOf, Net.d]
  (repeat' (first | (with_reducible first | refine And.intro ?_ ?_ | (refine aS 8 [20, 19, 21] ?_; intro K hK)) | ((with_reducible refine aGo ?_); simp only [go_sem]) | ((with_reducible refine aCd ?_ ?_ (fun hb => ?_) (fun hb => ?_)); (iterate 2 simp only [go_sem]); all_goals (simp only [go_sem] at hb; try simp only [bls] at hb)) | ((iterate 6 try ((fail_if_success with_reducible refine hK _ ?_ ?_ ?_); clear hK K)); with_reducible refine hK _ ?_ ?_ ?_; rotate_left; (focus (simp only [go_sem]; exact rfl)); clear hK K) | ((with_reducible refine xA ?_); simp only [go_sem]) | exact aZ | fail))
  all_goals first | omega | rfl | skip
end Go.Proofs.YtljpfdehnjemlaaGreatDoor
