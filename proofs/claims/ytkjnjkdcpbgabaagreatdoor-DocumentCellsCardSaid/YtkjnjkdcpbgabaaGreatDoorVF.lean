/-
 Chapter 23: the law's items.
-/
import Derived.Test.YtkjnjkdcpbgabaaGreatDoorUN
import Derived.Test.YtkjnjkdcpbgabaaGreatDoorUE
import Derived.Test.YtkjnjkdcpbgabaaGreatDoorUF
set_option linter.unusedSimpArgs false
set_option linter.unusedVariables false
namespace Go.Proofs.YtkjnjkdcpbgabaaGreatDoor
open Go.Eng Go.RowKit
def It.dw (x : It) : List D :=
 if x.kind < 3 ∧ x.locs = [] ∧ x.terms = [] then [.int .i64 x.kind, .str x.name, .list (ints x.aut.alpha), .int .i64 x.aut.states, .list (ints x.aut.marked), .list (edD x.aut.edges), .nil, .nil, .int .i64 x.bound]
 else if x.kind = 3 ∧ x.aut = AU.no ∧ x.terms = [] then [.int .i64 x.kind, .str x.name, .nil, .int .i64 0, .nil, .nil, .list (ltD x.locs), .nil, .int .i64 x.bound]
 else if x.kind = 4 ∧ x.aut = AU.no ∧ x.locs = [] then [.int .i64 x.kind, .str x.name, .nil, .int .i64 0, .nil, .nil, .nil, .list (ltD x.terms), .int .i64 x.bound]
 else x.d
theorem It.dw_le (x : It) : LeL x.dw x.d := by
 have n (l : List D) (m : List D) (h : LeL l m) : LeL (.nil :: l) (.list [] :: m) := LeL.cons leD_nil h
 have r (d : D) (l : List D) (m : List D) (h : LeL l m) : LeL (d :: l) (d :: m) := LeL.cons (LeD.refl _) h
 rw [It.dw]
 split
 ·rename_i h
  rw [It.d, h.2.1, h.2.2]
  exact r _ _ _ (r _ _ _ (r _ _ _ (r _ _ _ (r _ _ _ (r _ _ _ (n _ _ (n _ _ (LeL.refl _))))))))
 split
 ·rename_i h
  rw [It.d, h.2.1, h.2.2]
  exact r _ _ _ (r _ _ _ (n _ _ (r _ _ _ (n _ _ (n _ _ (r _ _ _ (n _ _ (LeL.refl _))))))))
 split
 ·rename_i h
  rw [It.d, h.2.1, h.2.2]
  exact r _ _ _ (r _ _ _ (n _ _ (r _ _ _ (n _ _ (n _ _ (n _ _ (r _ _ _ (LeL.refl _))))))))
 ·exact LeL.refl _
theorem dw_length (x : It) : x.dw.length = 9 := by
 rw [It.dw]
 split
 ·rfl
 split
 ·rfl
 split
 ·rfl
 ·rfl
def itW (l : List It) : List (List D) := l.map It.dw
theorem itW_length (l : List It) : (itW l).length = l.length := by simp [itW]
theorem itW_sz (l : List It) : (∀ r : List D, r ∈ itW l → r.length = 9) ↔ True := ⟨fun _ => trivial, fun _ r hr => by obtain ⟨e, _, rfl⟩ := List.mem_map.1 hr; exact dw_length e⟩
theorem itW_snoc (l : List It) (x : It) : itW (l ++ [x]) = itW l ++ [x.dw] := by simp [itW]
attribute [go_sem] itW_length itW_sz
theorem itW_le (l : List It) : LeR (itW l) (itD l) := leR_map It.dw_le l
theorem dw_comp1 (e : NI) : (compI 1 e).dw = [.int .i64 1, .str e.name, .list (ints e.aut.alpha), .int .i64 e.aut.states, .list (ints e.aut.marked), .list (edD e.aut.edges), .nil, .nil, .int .i64 0] := by
 rw [It.dw, if_pos ⟨show (1 : Int) < 3 by decide, rfl, rfl⟩]; rfl
theorem dw_comp2 (e : NI) : (compI 2 e).dw = [.int .i64 2, .str e.name, .list (ints e.aut.alpha), .int .i64 e.aut.states, .list (ints e.aut.marked), .list (edD e.aut.edges), .nil, .nil, .int .i64 0] := by
 rw [It.dw, if_pos ⟨show (2 : Int) < 3 by decide, rfl, rfl⟩]; rfl
theorem dw_cond3 (s : List UInt8) (q : List Lt) : It.dw ⟨3, s, AU.no, q, [], 0⟩ = [.int .i64 3, .str s, .nil, .int .i64 0, .nil, .nil, .list (ltD q), .nil, .int .i64 0] := by
 rw [It.dw, if_neg (fun h => absurd h.1 (show ¬ (3 : Int) < 3 by decide)), if_pos ⟨rfl, rfl, rfl⟩]
theorem dw_cond4 (s : List UInt8) (q : List Lt) (b : Int) : It.dw ⟨4, s, AU.no, [], q, b⟩ = [.int .i64 4, .str s, .nil, .int .i64 0, .nil, .nil, .nil, .list (ltD q), .int .i64 b] := by
 rw [It.dw, if_neg (fun h => absurd h.1 (show ¬ (4 : Int) < 3 by decide)), if_neg (fun h => absurd h.1 (show ¬ (4 : Int) = 3 by decide)), if_pos ⟨rfl, rfl, rfl⟩]
theorem ACalls.weakArgs {P : Program} {f : FuncId} {args args' : List AV} {r : AV} {Hn : List AObj} (h : LeVs args' args) (hc : ACalls P f args r Hn) : ACalls P f args' r Hn := ⟨hc.ok, fun w M vs hM hv => hc.run w M vs hM (LeVs.rep h hv)⟩
def lawItems (c : CE) : List It × Int := match rawI c with
 | none => ([], 2)
 | some l => (l, chkL l)
theorem lawcheckW_c (l : List It) (hf : LFits l) : ACalls Tryz.prog 14 [.one (.list (itW l))] (.one (.int .i64 (chkL l))) [] := ACalls.weakArgs (args := [.one (.list (itD l))]) (args' := [.one (.list (itW l))]) ⟨leV_one rfl rfl (leD_list (itW_le l)), trivial⟩ (lawcheck_c l hf)
set_option maxHeartbeats 16000000 in
set_option maxRecDepth 100000 in
theorem lawitemsW_c (E : List (List D)) (c : CE) (hf : c.Fits) : ACalls Tryz.prog 23 [.agg (cellD E c)] (.tup [.one (.list (itW (lawItems c).1)), .one (.int .i64 (lawItems c).2)]) [] := by
 have h1 := hf.comps.1
 have h2 := hf.reqs.1
 have h3 := hf.excl.1
 have h4 := hf.cons.1
 have hR : lawItems c = match rawI c with | none => ([], 2) | some l => (l, chkL l) := rfl
 have hraw : rawI c = match allO (exI c.comps) c.excl with | none => none | some a => (allO (cnI c.comps) c.cons).map fun b => c.comps.map (compI 1) ++ c.reqs.map (compI 2) ++ a ++ b := rfl
 have hrf := @rawI_fits c hf
 generalize lawItems c = R at *
 generalize rawI c = W at *
 have e0 : itW [] = [] := rfl
 (refine ACalls.of_body Ty_ok mixed Tryz.func23 rfl (by kernel_rfl) Tryz.ntmps23 (by simp) (congrArg Array.toList Tryz.results23) ?_)
 simp only [slotsOf, cellD]
 (repeat' (first | (with_reducible first | exact True.intro | refine And.intro ?_ ?_ | refine aBl ?_ | (refine aS 15 [] ?_; intro K hK)) | ((with_reducible first | refine aGo ?_ | refine rP Ty_ok mixed 5 [0, 1, 3, 7, 9] [.mid [pe 2, pe 4, pe 5, pe 6, pe 8, pe 10, pe 11, pe 12, pe 13, pe 14] 0, .one 15, .one 16] ?_ | refine rP Ty_ok mixed 9 [0, 1, 3, 7, 9] [.mid [pe 2, pe 4, pe 5, pe 6, pe 8, pe 10, pe 11, pe 12, pe 13, pe 14] 0, .one 15, .one 16] ?_ | refine rP Ty_ok mixed 20 [0, 2, 4, 9] [.mid [pe 1, pe 3, pe 5, pe 6, pe 7, pe 8, pe 10, pe 11, pe 12] 0, .one 13, .one 14, .one 15] ?_ | refine rP Ty_ok mixed 25 [0, 2, 6, 8] [.mid [pe 1, pe 3, pe 4, pe 5, pe 7, pe 9, pe 10, pe 11, pe 12, ⟨13, 0, true, false, false, [], []⟩] 1, .one 14] ?_ | refine rP Ty_ok mixed 32 [0, 2, 4, 9] [.mid [pe 1, pe 3, pe 5, pe 6, pe 7, pe 8, pe 10, pe 11, pe 12] 0, .one 13, .one 14, .one 15] ?_); simp only [go_sem]) | ((with_reducible refine aCd ?_ ?_ (fun hb => ?_) (fun hb => ?_)); (iterate 2 simp only [go_sem]); all_goals (simp only [go_sem] at hb; try simp only [bls] at hb)) | ((iterate 6 try ((fail_if_success with_reducible refine hK _ ?_ ?_ ?_); clear hK K)); with_reducible refine hK _ ?_ ?_ ?_; rotate_left; (focus (simp only [go_sem]; exact rfl)); clear hK K) | (with_reducible refine aGs (fun hg0 => ?_) (fun hg0 => ?_) <;> first | (with_reducible first | exact aF1 hg0 | exact aF2 hg0) | (simp only [hg0, go_sem])) | (with_reducible refine aNk ?_; intro bnil hnil; try simp only []) | exact aZ | fail))
 all_goals first | omega | skip
 refine awp_loop _ (by simp only [go_sem]; rfl) Nat (fun k => k ≤ c.comps.length) (fun k => [(4, .one (.own 2)), (5, .one (.int .i64 k))]) (fun k H => H.set 2 (.row 30 9 (itW ((c.comps.take k).map (compI 1))))) (fun k => c.comps.length - k) 0 (by omega) ?_ ?_
 ·have e0 : itW ((c.comps.take 0).map (compI 1)) = [] := by simp [itW]
  rw [e0]
  (simp only [SubF, List.set_cons_succ, List.set_cons_zero, go_sem]; (try simp only [List.set_cons_succ, List.set_cons_zero, go_sem]); repeat' (first | exact True.intro | with_reducible refine And.intro ?_ ?_ | rfl | omega))
 rintro k hk L hL
 have hq : ((k : Nat) : Int).toNat = k := by omega
 have hml : ((c.comps.take k).map (compI 1)).length = k := by simp only [List.length_append, List.length_map, List.length_take]; omega
 rcases (Decidable.em (k < c.comps.length)) with hlt | hlt
 ·have hg := niD_get hlt [.str [], .nil, .int .i64 0, .nil, .nil]
  have hs : itW ((c.comps.take (k + 1)).map (compI 1)) = itW ((c.comps.take k).map (compI 1)) ++ [(compI 1 (c.comps.getD k NI.no)).dw] := by rw [map_take_succ _ _ _ NI.no hlt, itW_snoc]
  generalize c.comps.getD k NI.no = e at *
  have hlf : decide ((k : Int) < c.comps.length) = true := decide_eq_true (by omega)
  rw [dw_comp1] at hs
  simp only [NI.d] at hg
  (simp only [List.set_cons_succ, List.set_cons_zero, go_sem] at hL ⊢)
  (repeat' (first | (with_reducible first | exact True.intro | refine And.intro ?_ ?_ | refine aBl ?_ | (refine aS 15 [] ?_; intro K hK)) | ((with_reducible first | refine aGo ?_ | refine rP Ty_ok mixed 5 [0, 1, 3, 7, 9] [.mid [pe 2, pe 4, pe 5, pe 6, pe 8, pe 10, pe 11, pe 12, pe 13, pe 14] 0, .one 15, .one 16] ?_ | refine rP Ty_ok mixed 9 [0, 1, 3, 7, 9] [.mid [pe 2, pe 4, pe 5, pe 6, pe 8, pe 10, pe 11, pe 12, pe 13, pe 14] 0, .one 15, .one 16] ?_ | refine rP Ty_ok mixed 20 [0, 2, 4, 9] [.mid [pe 1, pe 3, pe 5, pe 6, pe 7, pe 8, pe 10, pe 11, pe 12] 0, .one 13, .one 14, .one 15] ?_ | refine rP Ty_ok mixed 25 [0, 2, 6, 8] [.mid [pe 1, pe 3, pe 4, pe 5, pe 7, pe 9, pe 10, pe 11, pe 12, ⟨13, 0, true, false, false, [], []⟩] 1, .one 14] ?_ | refine rP Ty_ok mixed 32 [0, 2, 4, 9] [.mid [pe 1, pe 3, pe 5, pe 6, pe 7, pe 8, pe 10, pe 11, pe 12] 0, .one 13, .one 14, .one 15] ?_); simp only [hg, hq, hlf, go_sem]) | ((with_reducible refine aCd ?_ ?_ (fun hb => ?_) (fun hb => ?_)); (iterate 2 simp only [hg, hq, hlf, go_sem]); all_goals (simp only [hg, hq, hlf, go_sem] at hb; try simp only [bls] at hb)) | ((iterate 6 try ((fail_if_success with_reducible refine hK _ ?_ ?_ ?_); clear hK K)); with_reducible refine hK _ ?_ ?_ ?_; rotate_left; (focus (simp only [hg, hq, hlf, go_sem]; exact rfl)); clear hK K) | (with_reducible refine aGs (fun hg0 => ?_) (fun hg0 => ?_) <;> first | (with_reducible first | exact aF1 hg0 | exact aF2 hg0) | (simp only [hg0, hg, hq, hlf, go_sem])) | (with_reducible refine aNk ?_; intro bnil hnil; try simp only []) | exact aZ | fail))
  all_goals first | omega | skip
  refine hL _ (k + 1) (by omega) ?_ (by omega)
  rw [hs]
  (simp only [SubF, List.set_cons_succ, List.set_cons_zero, go_sem]; (try simp only [List.set_cons_succ, List.set_cons_zero, go_sem]); repeat' (first | exact True.intro | with_reducible refine And.intro ?_ ?_ | rfl | omega))
 have hkl : k = c.comps.length := by omega
 subst hkl
 have hlf : decide ((c.comps.length : Int) < c.comps.length) = false := decide_eq_false (by omega)
 rw [List.take_length] at *
 (simp only [List.set_cons_succ, List.set_cons_zero, go_sem] at hL ⊢)
 (repeat' (first | (with_reducible first | exact True.intro | refine And.intro ?_ ?_ | refine aBl ?_ | (refine aS 15 [] ?_; intro K hK)) | ((with_reducible first | refine aGo ?_ | refine rP Ty_ok mixed 5 [0, 1, 3, 7, 9] [.mid [pe 2, pe 4, pe 5, pe 6, pe 8, pe 10, pe 11, pe 12, pe 13, pe 14] 0, .one 15, .one 16] ?_ | refine rP Ty_ok mixed 9 [0, 1, 3, 7, 9] [.mid [pe 2, pe 4, pe 5, pe 6, pe 8, pe 10, pe 11, pe 12, pe 13, pe 14] 0, .one 15, .one 16] ?_ | refine rP Ty_ok mixed 20 [0, 2, 4, 9] [.mid [pe 1, pe 3, pe 5, pe 6, pe 7, pe 8, pe 10, pe 11, pe 12] 0, .one 13, .one 14, .one 15] ?_ | refine rP Ty_ok mixed 25 [0, 2, 6, 8] [.mid [pe 1, pe 3, pe 4, pe 5, pe 7, pe 9, pe 10, pe 11, pe 12, ⟨13, 0, true, false, false, [], []⟩] 1, .one 14] ?_ | refine rP Ty_ok mixed 32 [0, 2, 4, 9] [.mid [pe 1, pe 3, pe 5, pe 6, pe 7, pe 8, pe 10, pe 11, pe 12] 0, .one 13, .one 14, .one 15] ?_); simp only [hlf, go_sem]) | ((with_reducible refine aCd ?_ ?_ (fun hb => ?_) (fun hb => ?_)); (iterate 2 simp only [hlf, go_sem]); all_goals (simp only [hlf, go_sem] at hb; try simp only [bls] at hb)) | ((iterate 6 try ((fail_if_success with_reducible refine hK _ ?_ ?_ ?_); clear hK K)); with_reducible refine hK _ ?_ ?_ ?_; rotate_left; (focus (simp only [hlf, go_sem]; exact rfl)); clear hK K) | (with_reducible refine aGs (fun hg0 => ?_) (fun hg0 => ?_) <;> first | (with_reducible first | exact aF1 hg0 | exact aF2 hg0) | (simp only [hg0, hlf, go_sem])) | (with_reducible refine aNk ?_; intro bnil hnil; try simp only []) | exact aZ | fail))
 all_goals first | omega | skip
 clear hL
 have hAl : (c.comps.map (compI 1)).length = c.comps.length := by simp
 generalize c.comps.map (compI 1) = A at *
 refine awp_loop _ (by simp only [go_sem]; rfl) Nat (fun k => k ≤ c.reqs.length) (fun k => [(4, .one (.own 2)), (6, .one (.int .i64 k))]) (fun k H => H.set 2 (.row 30 9 (itW (A ++ (c.reqs.take k).map (compI 2))))) (fun k => c.reqs.length - k) 0 (by omega) ?_ ?_
 ·have e0 : itW (A ++ (c.reqs.take 0).map (compI 2)) = itW A := by simp [itW]
  rw [e0]
  (simp only [SubF, List.set_cons_succ, List.set_cons_zero, go_sem]; (try simp only [List.set_cons_succ, List.set_cons_zero, go_sem]); repeat' (first | exact True.intro | with_reducible refine And.intro ?_ ?_ | rfl | omega))
 rintro k hk L hL
 have hq : ((k : Nat) : Int).toNat = k := by omega
 have hml : (A ++ (c.reqs.take k).map (compI 2)).length = A.length + k := by simp only [List.length_append, List.length_map, List.length_take]; omega
 rcases (Decidable.em (k < c.reqs.length)) with hlt | hlt
 ·have hg := niD_get hlt [.str [], .nil, .int .i64 0, .nil, .nil]
  have hs : itW (A ++ (c.reqs.take (k + 1)).map (compI 2)) = itW (A ++ (c.reqs.take k).map (compI 2)) ++ [(compI 2 (c.reqs.getD k NI.no)).dw] := by rw [map_take_succ _ _ _ NI.no hlt, ← List.append_assoc, itW_snoc]
  generalize c.reqs.getD k NI.no = e at *
  have hlf : decide ((k : Int) < c.reqs.length) = true := decide_eq_true (by omega)
  rw [dw_comp2] at hs
  simp only [NI.d] at hg
  (simp only [List.set_cons_succ, List.set_cons_zero, go_sem] at hL ⊢)
  (repeat' (first | (with_reducible first | exact True.intro | refine And.intro ?_ ?_ | refine aBl ?_ | (refine aS 15 [] ?_; intro K hK)) | ((with_reducible first | refine aGo ?_ | refine rP Ty_ok mixed 5 [0, 1, 3, 7, 9] [.mid [pe 2, pe 4, pe 5, pe 6, pe 8, pe 10, pe 11, pe 12, pe 13, pe 14] 0, .one 15, .one 16] ?_ | refine rP Ty_ok mixed 9 [0, 1, 3, 7, 9] [.mid [pe 2, pe 4, pe 5, pe 6, pe 8, pe 10, pe 11, pe 12, pe 13, pe 14] 0, .one 15, .one 16] ?_ | refine rP Ty_ok mixed 20 [0, 2, 4, 9] [.mid [pe 1, pe 3, pe 5, pe 6, pe 7, pe 8, pe 10, pe 11, pe 12] 0, .one 13, .one 14, .one 15] ?_ | refine rP Ty_ok mixed 25 [0, 2, 6, 8] [.mid [pe 1, pe 3, pe 4, pe 5, pe 7, pe 9, pe 10, pe 11, pe 12, ⟨13, 0, true, false, false, [], []⟩] 1, .one 14] ?_ | refine rP Ty_ok mixed 32 [0, 2, 4, 9] [.mid [pe 1, pe 3, pe 5, pe 6, pe 7, pe 8, pe 10, pe 11, pe 12] 0, .one 13, .one 14, .one 15] ?_); simp only [hg, hq, hlf, go_sem]) | ((with_reducible refine aCd ?_ ?_ (fun hb => ?_) (fun hb => ?_)); (iterate 2 simp only [hg, hq, hlf, go_sem]); all_goals (simp only [hg, hq, hlf, go_sem] at hb; try simp only [bls] at hb)) | ((iterate 6 try ((fail_if_success with_reducible refine hK _ ?_ ?_ ?_); clear hK K)); with_reducible refine hK _ ?_ ?_ ?_; rotate_left; (focus (simp only [hg, hq, hlf, go_sem]; exact rfl)); clear hK K) | (with_reducible refine aGs (fun hg0 => ?_) (fun hg0 => ?_) <;> first | (with_reducible first | exact aF1 hg0 | exact aF2 hg0) | (simp only [hg0, hg, hq, hlf, go_sem])) | (with_reducible refine aNk ?_; intro bnil hnil; try simp only []) | exact aZ | fail))
  all_goals first | omega | skip
  refine hL _ (k + 1) (by omega) ?_ (by omega)
  rw [hs]
  (simp only [SubF, List.set_cons_succ, List.set_cons_zero, go_sem]; (try simp only [List.set_cons_succ, List.set_cons_zero, go_sem]); repeat' (first | exact True.intro | with_reducible refine And.intro ?_ ?_ | rfl | omega))
 have hkl : k = c.reqs.length := by omega
 subst hkl
 have hlf : decide ((c.reqs.length : Int) < c.reqs.length) = false := decide_eq_false (by omega)
 rw [List.take_length] at *
 (simp only [List.set_cons_succ, List.set_cons_zero, go_sem] at hL ⊢)
 (repeat' (first | (with_reducible first | exact True.intro | refine And.intro ?_ ?_ | refine aBl ?_ | (refine aS 15 [] ?_; intro K hK)) | ((with_reducible first | refine aGo ?_ | refine rP Ty_ok mixed 5 [0, 1, 3, 7, 9] [.mid [pe 2, pe 4, pe 5, pe 6, pe 8, pe 10, pe 11, pe 12, pe 13, pe 14] 0, .one 15, .one 16] ?_ | refine rP Ty_ok mixed 9 [0, 1, 3, 7, 9] [.mid [pe 2, pe 4, pe 5, pe 6, pe 8, pe 10, pe 11, pe 12, pe 13, pe 14] 0, .one 15, .one 16] ?_ | refine rP Ty_ok mixed 20 [0, 2, 4, 9] [.mid [pe 1, pe 3, pe 5, pe 6, pe 7, pe 8, pe 10, pe 11, pe 12] 0, .one 13, .one 14, .one 15] ?_ | refine rP Ty_ok mixed 25 [0, 2, 6, 8] [.mid [pe 1, pe 3, pe 4, pe 5, pe 7, pe 9, pe 10, pe 11, pe 12, ⟨13, 0, true, false, false, [], []⟩] 1, .one 14] ?_ | refine rP Ty_ok mixed 32 [0, 2, 4, 9] [.mid [pe 1, pe 3, pe 5, pe 6, pe 7, pe 8, pe 10, pe 11, pe 12] 0, .one 13, .one 14, .one 15] ?_); simp only [hlf, go_sem]) | ((with_reducible refine aCd ?_ ?_ (fun hb => ?_) (fun hb => ?_)); (iterate 2 simp only [hlf, go_sem]); all_goals (simp only [hlf, go_sem] at hb; try simp only [bls] at hb)) | ((iterate 6 try ((fail_if_success with_reducible refine hK _ ?_ ?_ ?_); clear hK K)); with_reducible refine hK _ ?_ ?_ ?_; rotate_left; (focus (simp only [hlf, go_sem]; exact rfl)); clear hK K) | (with_reducible refine aGs (fun hg0 => ?_) (fun hg0 => ?_) <;> first | (with_reducible first | exact aF1 hg0 | exact aF2 hg0) | (simp only [hg0, hlf, go_sem])) | (with_reducible refine aNk ?_; intro bnil hnil; try simp only []) | exact aZ | fail))
 all_goals first | omega | skip
 clear hL
 have hBl : (A ++ c.reqs.map (compI 2)).length = c.comps.length + c.reqs.length := by simp [hAl]
 generalize A ++ c.reqs.map (compI 2) = B at *
 generalize hN : allO (exI c.comps) c.excl = N at *
 refine awp_loop _ (by simp only [go_sem]; rfl) (Nat × List It) (fun s => s.1 ≤ c.excl.length ∧ N = (allO (exI c.comps) (c.excl.drop s.1)).map (s.2 ++ ·) ∧ s.2.length = s.1) (fun s => [(4, .one (.own 2)), (7, .one (.int .i64 s.1))]) (fun s H => H.set 2 (.row 30 9 (itW (B ++ s.2)))) (fun s => c.excl.length - s.1) (0, []) ⟨by omega, by rw [← hN]; simp, rfl⟩ ?_ ?_
 ·have e0 : itW (B ++ []) = itW B := by simp
  rw [e0]
  (simp only [SubF, List.set_cons_succ, List.set_cons_zero, go_sem]; (try simp only [List.set_cons_succ, List.set_cons_zero, go_sem]); repeat' (first | exact True.intro | with_reducible refine And.intro ?_ ?_ | rfl | omega))
 rintro ⟨k, p⟩ ⟨hk, hres, hpl⟩ Lo hLo
 dsimp only at hk hres hpl
 have hq : ((k : Nat) : Int).toNat = k := by omega
 have hbl : (B ++ p).length = B.length + k := by rw [List.length_append]; omega
 rcases (Decidable.em (k < c.excl.length)) with hlt | hlt
 ·have hg := exD_get hlt [.str [], .nil]
  have hs := allO_step (d := Ex.no) hlt hres
  have hx := hf.excl.2 _ (getD_mem _ k Ex.no hlt)
  generalize c.excl.getD k Ex.no = e at *
  have hR0 : exI c.comps e = (namedL c.comps e.locs).map fun l => ⟨3, e.name, AU.no, l, [], 0⟩ := rfl
  generalize hy : exI c.comps e = Y at *
  generalize hM : namedL c.comps e.locs = M at hR0
  have hlf : decide ((k : Int) < c.excl.length) = true := decide_eq_true (by omega)
  simp only [Ex.d] at hg
  (simp only [List.set_cons_succ, List.set_cons_zero, go_sem] at hLo ⊢)
  (repeat' (first | (with_reducible first | exact True.intro | refine And.intro ?_ ?_ | refine aBl ?_ | (refine aS 15 [] ?_; intro K hK)) | ((with_reducible first | refine aGo ?_ | refine rP Ty_ok mixed 5 [0, 1, 3, 7, 9] [.mid [pe 2, pe 4, pe 5, pe 6, pe 8, pe 10, pe 11, pe 12, pe 13, pe 14] 0, .one 15, .one 16] ?_ | refine rP Ty_ok mixed 9 [0, 1, 3, 7, 9] [.mid [pe 2, pe 4, pe 5, pe 6, pe 8, pe 10, pe 11, pe 12, pe 13, pe 14] 0, .one 15, .one 16] ?_ | refine rP Ty_ok mixed 20 [0, 2, 4, 9] [.mid [pe 1, pe 3, pe 5, pe 6, pe 7, pe 8, pe 10, pe 11, pe 12] 0, .one 13, .one 14, .one 15] ?_ | refine rP Ty_ok mixed 25 [0, 2, 6, 8] [.mid [pe 1, pe 3, pe 4, pe 5, pe 7, pe 9, pe 10, pe 11, pe 12, ⟨13, 0, true, false, false, [], []⟩] 1, .one 14] ?_ | refine rP Ty_ok mixed 32 [0, 2, 4, 9] [.mid [pe 1, pe 3, pe 5, pe 6, pe 7, pe 8, pe 10, pe 11, pe 12] 0, .one 13, .one 14, .one 15] ?_); simp only [hg, hq, hlf, go_sem]) | ((with_reducible refine aCd ?_ ?_ (fun hb => ?_) (fun hb => ?_)); (iterate 2 simp only [hg, hq, hlf, go_sem]); all_goals (simp only [hg, hq, hlf, go_sem] at hb; try simp only [bls] at hb)) | ((iterate 6 try ((fail_if_success with_reducible refine hK _ ?_ ?_ ?_); clear hK K)); with_reducible refine hK _ ?_ ?_ ?_; rotate_left; (focus (simp only [hg, hq, hlf, go_sem]; exact rfl)); clear hK K) | (with_reducible refine aGs (fun hg0 => ?_) (fun hg0 => ?_) <;> first | (with_reducible first | exact aF1 hg0 | exact aF2 hg0) | (simp only [hg0, hg, hq, hlf, go_sem])) | (with_reducible refine aNk ?_; intro bnil hnil; try simp only []) | exact aZ | fail))
  all_goals first | omega | skip
  refine awp_loopT [.cell 3 6 60 2] _ (by simp only [go_sem]; rfl) (Nat × List Lt) (fun s => s.1 ≤ e.locs.length ∧ M = (namedL c.comps (e.locs.drop s.1)).map (s.2 ++ ·) ∧ s.2.length = s.1) (fun s => [(9, .one (.int .i64 s.1))])
   (fun s => [.var 52 [.list E, .list (niD c.comps), .list (niD c.reqs), .list (exD c.excl), .list (cnD c.cons)], .row 30 9 [], .row 30 9 (itW (B ++ p)), .var 30 [.int .i64 3, .str e.name, .nil, .int .i64 0, .nil, .nil, .own 4, .nil, .int .i64 0], .row 60 2 (ltD s.2)]) (fun s => e.locs.length - s.1) (0, []) ⟨by omega, by rw [← hM]; simp, rfl⟩ ?_ ?_
  ·have e0 : ltD [] = [] := rfl
   rw [e0]
   (simp only [SubF, go_sem]; (try simp only [go_sem]); repeat' (first | exact True.intro | with_reducible refine And.intro ?_ ?_ | rfl | omega))
  rintro ⟨j, q⟩ ⟨hj, hrq, hql⟩ L hL
  dsimp only at hj hrq hql
  have hqj : ((j : Nat) : Int).toNat = j := by omega
  rw [← hM] at hrq
  rcases (Decidable.em (j < e.locs.length)) with hjl | hjl
  ·have hns := named_step hjl hrq
   have hjf : decide ((j : Int) < e.locs.length) = true := decide_eq_true (by omega)
   generalize hyd : e.locs.getD j Pr.no = y at *
   rw [hM] at hns
   by_cases hc : y.comp < 0 ∨ (c.comps.length : Int) ≤ y.comp
   ·rw [if_pos hc] at hns
    subst hns
    have hYn : Y = none := hR0
    rw [hYn] at hs
    subst hs
    rw [hraw] at hR
    subst hR
    (simp only [go_sem] at hL ⊢)
    (repeat' (first | (with_reducible first | exact True.intro | refine And.intro ?_ ?_ | refine aBl ?_ | (refine aS 15 [] ?_; intro K hK)) | ((with_reducible first | refine aGo ?_ | refine rP Ty_ok mixed 5 [0, 1, 3, 7, 9] [.mid [pe 2, pe 4, pe 5, pe 6, pe 8, pe 10, pe 11, pe 12, pe 13, pe 14] 0, .one 15, .one 16] ?_ | refine rP Ty_ok mixed 9 [0, 1, 3, 7, 9] [.mid [pe 2, pe 4, pe 5, pe 6, pe 8, pe 10, pe 11, pe 12, pe 13, pe 14] 0, .one 15, .one 16] ?_ | refine rP Ty_ok mixed 20 [0, 2, 4, 9] [.mid [pe 1, pe 3, pe 5, pe 6, pe 7, pe 8, pe 10, pe 11, pe 12] 0, .one 13, .one 14, .one 15] ?_ | refine rP Ty_ok mixed 25 [0, 2, 6, 8] [.mid [pe 1, pe 3, pe 4, pe 5, pe 7, pe 9, pe 10, pe 11, pe 12, ⟨13, 0, true, false, false, [], []⟩] 1, .one 14] ?_ | refine rP Ty_ok mixed 32 [0, 2, 4, 9] [.mid [pe 1, pe 3, pe 5, pe 6, pe 7, pe 8, pe 10, pe 11, pe 12] 0, .one 13, .one 14, .one 15] ?_); simp only [hg, hq, hqj, hyd, hjf, go_sem]) | ((with_reducible refine aCd ?_ ?_ (fun hb => ?_) (fun hb => ?_)); (iterate 2 simp only [hg, hq, hqj, hyd, hjf, go_sem]); all_goals (simp only [hg, hq, hqj, hyd, hjf, go_sem] at hb; try simp only [bls] at hb)) | ((iterate 6 try ((fail_if_success with_reducible refine hK _ ?_ ?_ ?_); clear hK K)); with_reducible refine hK _ ?_ ?_ ?_; rotate_left; (focus (simp only [hg, hq, hqj, hyd, hjf, go_sem]; exact rfl)); clear hK K) | (with_reducible refine aGs (fun hg0 => ?_) (fun hg0 => ?_) <;> first | (with_reducible first | exact aF1 hg0 | exact aF2 hg0) | (simp only [hg0, hg, hq, hqj, hyd, hjf, go_sem])) | (with_reducible refine aNk ?_; intro bnil hnil; try simp only []) | exact aZ | fail))
    all_goals first | omega | rfl | skip
   ·rw [if_neg hc] at hns
    have hgn := niD_get (l := c.comps) (k := y.comp.toNat) (by omega) [.str [], .nil, .int .i64 0, .nil, .nil]
    generalize c.comps.getD y.comp.toNat NI.no = nm at *
    simp only [NI.d] at hgn
    (simp only [go_sem] at hL ⊢)
    (repeat' (first | (with_reducible first | exact True.intro | refine And.intro ?_ ?_ | refine aBl ?_ | (refine aS 15 [] ?_; intro K hK)) | ((with_reducible first | refine aGo ?_ | refine rP Ty_ok mixed 5 [0, 1, 3, 7, 9] [.mid [pe 2, pe 4, pe 5, pe 6, pe 8, pe 10, pe 11, pe 12, pe 13, pe 14] 0, .one 15, .one 16] ?_ | refine rP Ty_ok mixed 9 [0, 1, 3, 7, 9] [.mid [pe 2, pe 4, pe 5, pe 6, pe 8, pe 10, pe 11, pe 12, pe 13, pe 14] 0, .one 15, .one 16] ?_ | refine rP Ty_ok mixed 20 [0, 2, 4, 9] [.mid [pe 1, pe 3, pe 5, pe 6, pe 7, pe 8, pe 10, pe 11, pe 12] 0, .one 13, .one 14, .one 15] ?_ | refine rP Ty_ok mixed 25 [0, 2, 6, 8] [.mid [pe 1, pe 3, pe 4, pe 5, pe 7, pe 9, pe 10, pe 11, pe 12, ⟨13, 0, true, false, false, [], []⟩] 1, .one 14] ?_ | refine rP Ty_ok mixed 32 [0, 2, 4, 9] [.mid [pe 1, pe 3, pe 5, pe 6, pe 7, pe 8, pe 10, pe 11, pe 12] 0, .one 13, .one 14, .one 15] ?_); simp only [hg, hq, hqj, hyd, hjf, hgn, go_sem]) | ((with_reducible refine aCd ?_ ?_ (fun hb => ?_) (fun hb => ?_)); (iterate 2 simp only [hg, hq, hqj, hyd, hjf, hgn, go_sem]); all_goals (simp only [hg, hq, hqj, hyd, hjf, hgn, go_sem] at hb; try simp only [bls] at hb)) | ((iterate 6 try ((fail_if_success with_reducible refine hK _ ?_ ?_ ?_); clear hK K)); with_reducible refine hK _ ?_ ?_ ?_; rotate_left; (focus (simp only [hg, hq, hqj, hyd, hjf, hgn, go_sem]; exact rfl)); clear hK K) | (with_reducible refine aGs (fun hg0 => ?_) (fun hg0 => ?_) <;> first | (with_reducible first | exact aF1 hg0 | exact aF2 hg0) | (simp only [hg0, hg, hq, hqj, hyd, hjf, hgn, go_sem])) | (with_reducible refine aNk ?_; intro bnil hnil; try simp only []) | exact aZ | fail))
    all_goals first | omega | skip
    refine hL _ (j + 1, q ++ [⟨nm.name, y.val⟩]) ⟨by omega, hns, by simp; omega⟩ ?_ (by omega)
    rw [← lts_append, ← lts_one]
    (simp only [SubF, go_sem]; (try simp only [go_sem]); repeat' (first | exact True.intro | with_reducible refine And.intro ?_ ?_ | rfl | omega))
  have hjk : j = e.locs.length := by omega
  subst hjk
  have hjf : decide ((e.locs.length : Int) < e.locs.length) = false := decide_eq_false (by omega)
  rw [List.drop_length, hM] at hrq
  have hMq : M = some q := by rw [hrq]; simp [namedL]
  subst hMq
  have hYs : Y = some ⟨3, e.name, AU.no, q, [], 0⟩ := hR0
  rw [hYs] at hs
  have hs2 : itW (B ++ (p ++ [⟨3, e.name, AU.no, q, [], 0⟩])) = itW (B ++ p) ++ [It.dw ⟨3, e.name, AU.no, q, [], 0⟩] := by rw [← List.append_assoc, itW_snoc]
  rw [dw_cond3] at hs2
  (simp only [go_sem] at hL ⊢)
  (repeat' (first | (with_reducible first | exact True.intro | refine And.intro ?_ ?_ | refine aBl ?_ | (refine aS 15 [] ?_; intro K hK)) | ((with_reducible first | refine aGo ?_ | refine rP Ty_ok mixed 5 [0, 1, 3, 7, 9] [.mid [pe 2, pe 4, pe 5, pe 6, pe 8, pe 10, pe 11, pe 12, pe 13, pe 14] 0, .one 15, .one 16] ?_ | refine rP Ty_ok mixed 9 [0, 1, 3, 7, 9] [.mid [pe 2, pe 4, pe 5, pe 6, pe 8, pe 10, pe 11, pe 12, pe 13, pe 14] 0, .one 15, .one 16] ?_ | refine rP Ty_ok mixed 20 [0, 2, 4, 9] [.mid [pe 1, pe 3, pe 5, pe 6, pe 7, pe 8, pe 10, pe 11, pe 12] 0, .one 13, .one 14, .one 15] ?_ | refine rP Ty_ok mixed 25 [0, 2, 6, 8] [.mid [pe 1, pe 3, pe 4, pe 5, pe 7, pe 9, pe 10, pe 11, pe 12, ⟨13, 0, true, false, false, [], []⟩] 1, .one 14] ?_ | refine rP Ty_ok mixed 32 [0, 2, 4, 9] [.mid [pe 1, pe 3, pe 5, pe 6, pe 7, pe 8, pe 10, pe 11, pe 12] 0, .one 13, .one 14, .one 15] ?_); simp only [hg, hq, hjf, go_sem]) | ((with_reducible refine aCd ?_ ?_ (fun hb => ?_) (fun hb => ?_)); (iterate 2 simp only [hg, hq, hjf, go_sem]); all_goals (simp only [hg, hq, hjf, go_sem] at hb; try simp only [bls] at hb)) | ((iterate 6 try ((fail_if_success with_reducible refine hK _ ?_ ?_ ?_); clear hK K)); with_reducible refine hK _ ?_ ?_ ?_; rotate_left; (focus (simp only [hg, hq, hjf, go_sem]; exact rfl)); clear hK K) | (with_reducible refine aGs (fun hg0 => ?_) (fun hg0 => ?_) <;> first | (with_reducible first | exact aF1 hg0 | exact aF2 hg0) | (simp only [hg0, hg, hq, hjf, go_sem])) | (with_reducible refine aNk ?_; intro bnil hnil; try simp only []) | exact aZ | fail))
  all_goals first | omega | skip
  refine hLo _ (k + 1, p ++ [⟨3, e.name, AU.no, q, [], 0⟩]) ⟨by omega, hs, by simp; omega⟩ ?_ (by omega)
  rw [hs2]
  (simp only [SubF, List.set_cons_succ, List.set_cons_zero, go_sem]; (try simp only [List.set_cons_succ, List.set_cons_zero, go_sem]); repeat' (first | exact True.intro | with_reducible refine And.intro ?_ ?_ | rfl | omega))
 have hkl : k = c.excl.length := by omega
 subst hkl
 have hlf : decide ((c.excl.length : Int) < c.excl.length) = false := decide_eq_false (by omega)
 rw [List.drop_length] at hres
 have hNp : N = some p := by rw [hres]; simp [allO]
 subst hNp
 (simp only [List.set_cons_succ, List.set_cons_zero, go_sem] at hLo ⊢)
 (repeat' (first | (with_reducible first | exact True.intro | refine And.intro ?_ ?_ | refine aBl ?_ | (refine aS 15 [] ?_; intro K hK)) | ((with_reducible first | refine aGo ?_ | refine rP Ty_ok mixed 5 [0, 1, 3, 7, 9] [.mid [pe 2, pe 4, pe 5, pe 6, pe 8, pe 10, pe 11, pe 12, pe 13, pe 14] 0, .one 15, .one 16] ?_ | refine rP Ty_ok mixed 9 [0, 1, 3, 7, 9] [.mid [pe 2, pe 4, pe 5, pe 6, pe 8, pe 10, pe 11, pe 12, pe 13, pe 14] 0, .one 15, .one 16] ?_ | refine rP Ty_ok mixed 20 [0, 2, 4, 9] [.mid [pe 1, pe 3, pe 5, pe 6, pe 7, pe 8, pe 10, pe 11, pe 12] 0, .one 13, .one 14, .one 15] ?_ | refine rP Ty_ok mixed 25 [0, 2, 6, 8] [.mid [pe 1, pe 3, pe 4, pe 5, pe 7, pe 9, pe 10, pe 11, pe 12, ⟨13, 0, true, false, false, [], []⟩] 1, .one 14] ?_ | refine rP Ty_ok mixed 32 [0, 2, 4, 9] [.mid [pe 1, pe 3, pe 5, pe 6, pe 7, pe 8, pe 10, pe 11, pe 12] 0, .one 13, .one 14, .one 15] ?_); simp only [hlf, go_sem]) | ((with_reducible refine aCd ?_ ?_ (fun hb => ?_) (fun hb => ?_)); (iterate 2 simp only [hlf, go_sem]); all_goals (simp only [hlf, go_sem] at hb; try simp only [bls] at hb)) | ((iterate 6 try ((fail_if_success with_reducible refine hK _ ?_ ?_ ?_); clear hK K)); with_reducible refine hK _ ?_ ?_ ?_; rotate_left; (focus (simp only [hlf, go_sem]; exact rfl)); clear hK K) | (with_reducible refine aGs (fun hg0 => ?_) (fun hg0 => ?_) <;> first | (with_reducible first | exact aF1 hg0 | exact aF2 hg0) | (simp only [hg0, hlf, go_sem])) | (with_reducible refine aNk ?_; intro bnil hnil; try simp only []) | exact aZ | fail))
 all_goals first | omega | skip
 clear hLo
 have hGl : (B ++ p).length = B.length + c.excl.length := hbl
 generalize hGp : B ++ p = G at *
 generalize hN : allO (cnI c.comps) c.cons = N at *
 clear hres hpl
 refine awp_loop _ (by simp only [go_sem]; rfl) (Nat × List It) (fun s => s.1 ≤ c.cons.length ∧ N = (allO (cnI c.comps) (c.cons.drop s.1)).map (s.2 ++ ·) ∧ s.2.length = s.1) (fun s => [(4, .one (.own 2)), (11, .one (.int .i64 s.1))]) (fun s H => H.set 2 (.row 30 9 (itW (G ++ s.2)))) (fun s => c.cons.length - s.1) (0, []) ⟨by omega, by rw [← hN]; simp, rfl⟩ ?_ ?_
 ·have e0 : itW (G ++ []) = itW G := by simp
  rw [e0]
  (simp only [SubF, List.set_cons_succ, List.set_cons_zero, go_sem]; (try simp only [List.set_cons_succ, List.set_cons_zero, go_sem]); repeat' (first | exact True.intro | with_reducible refine And.intro ?_ ?_ | rfl | omega))
 rintro ⟨k, p⟩ ⟨hk, hres, hpl⟩ Lo hLo
 dsimp only at hk hres hpl
 have hq : ((k : Nat) : Int).toNat = k := by omega
 have hbl : (G ++ p).length = G.length + k := by rw [List.length_append]; omega
 rcases (Decidable.em (k < c.cons.length)) with hlt | hlt
 ·have hg := cnD_get hlt [.str [], .nil, .int .i64 0]
  have hs := allO_step (d := Cn.no) hlt hres
  have hx := hf.cons.2 _ (getD_mem _ k Cn.no hlt)
  generalize c.cons.getD k Cn.no = e at *
  have hR0 : cnI c.comps e = (namedL c.comps e.terms).map fun l => ⟨4, e.name, AU.no, [], l, e.bound⟩ := rfl
  generalize hy : cnI c.comps e = Y at *
  generalize hM : namedL c.comps e.terms = M at hR0
  have hlf : decide ((k : Int) < c.cons.length) = true := decide_eq_true (by omega)
  simp only [Cn.d] at hg
  (simp only [List.set_cons_succ, List.set_cons_zero, go_sem] at hLo ⊢)
  (repeat' (first | (with_reducible first | exact True.intro | refine And.intro ?_ ?_ | refine aBl ?_ | (refine aS 15 [] ?_; intro K hK)) | ((with_reducible first | refine aGo ?_ | refine rP Ty_ok mixed 5 [0, 1, 3, 7, 9] [.mid [pe 2, pe 4, pe 5, pe 6, pe 8, pe 10, pe 11, pe 12, pe 13, pe 14] 0, .one 15, .one 16] ?_ | refine rP Ty_ok mixed 9 [0, 1, 3, 7, 9] [.mid [pe 2, pe 4, pe 5, pe 6, pe 8, pe 10, pe 11, pe 12, pe 13, pe 14] 0, .one 15, .one 16] ?_ | refine rP Ty_ok mixed 20 [0, 2, 4, 9] [.mid [pe 1, pe 3, pe 5, pe 6, pe 7, pe 8, pe 10, pe 11, pe 12] 0, .one 13, .one 14, .one 15] ?_ | refine rP Ty_ok mixed 25 [0, 2, 6, 8] [.mid [pe 1, pe 3, pe 4, pe 5, pe 7, pe 9, pe 10, pe 11, pe 12, ⟨13, 0, true, false, false, [], []⟩] 1, .one 14] ?_ | refine rP Ty_ok mixed 32 [0, 2, 4, 9] [.mid [pe 1, pe 3, pe 5, pe 6, pe 7, pe 8, pe 10, pe 11, pe 12] 0, .one 13, .one 14, .one 15] ?_); simp only [hg, hq, hlf, go_sem]) | ((with_reducible refine aCd ?_ ?_ (fun hb => ?_) (fun hb => ?_)); (iterate 2 simp only [hg, hq, hlf, go_sem]); all_goals (simp only [hg, hq, hlf, go_sem] at hb; try simp only [bls] at hb)) | ((iterate 6 try ((fail_if_success with_reducible refine hK _ ?_ ?_ ?_); clear hK K)); with_reducible refine hK _ ?_ ?_ ?_; rotate_left; (focus (simp only [hg, hq, hlf, go_sem]; exact rfl)); clear hK K) | (with_reducible refine aGs (fun hg0 => ?_) (fun hg0 => ?_) <;> first | (with_reducible first | exact aF1 hg0 | exact aF2 hg0) | (simp only [hg0, hg, hq, hlf, go_sem])) | (with_reducible refine aNk ?_; intro bnil hnil; try simp only []) | exact aZ | fail))
  all_goals first | omega | skip
  refine awp_loopT [.cell 3 7 62 2] _ (by simp only [go_sem]; rfl) (Nat × List Lt) (fun s => s.1 ≤ e.terms.length ∧ M = (namedL c.comps (e.terms.drop s.1)).map (s.2 ++ ·) ∧ s.2.length = s.1) (fun s => [(13, .one (.int .i64 s.1))])
   (fun s => [.var 52 [.list E, .list (niD c.comps), .list (niD c.reqs), .list (exD c.excl), .list (cnD c.cons)], .row 30 9 [], .row 30 9 (itW (G ++ p)), .var 30 [.int .i64 4, .str e.name, .nil, .int .i64 0, .nil, .nil, .nil, .own 4, .int .i64 e.bound], .row 62 2 (ltD s.2)]) (fun s => e.terms.length - s.1) (0, []) ⟨by omega, by rw [← hM]; simp, rfl⟩ ?_ ?_
  ·have e0 : ltD [] = [] := rfl
   rw [e0]
   (simp only [SubF, go_sem]; (try simp only [go_sem]); repeat' (first | exact True.intro | with_reducible refine And.intro ?_ ?_ | rfl | omega))
  rintro ⟨j, q⟩ ⟨hj, hrq, hql⟩ L hL
  dsimp only at hj hrq hql
  have hqj : ((j : Nat) : Int).toNat = j := by omega
  rw [← hM] at hrq
  rcases (Decidable.em (j < e.terms.length)) with hjl | hjl
  ·have hns := named_step hjl hrq
   have hjf : decide ((j : Int) < e.terms.length) = true := decide_eq_true (by omega)
   generalize hyd : e.terms.getD j Pr.no = y at *
   rw [hM] at hns
   by_cases hc : y.comp < 0 ∨ (c.comps.length : Int) ≤ y.comp
   ·rw [if_pos hc] at hns
    subst hns
    have hYn : Y = none := hR0
    rw [hYn] at hs
    subst hs
    rw [hraw] at hR
    subst hR
    (simp only [go_sem] at hL ⊢)
    (repeat' (first | (with_reducible first | exact True.intro | refine And.intro ?_ ?_ | refine aBl ?_ | (refine aS 15 [] ?_; intro K hK)) | ((with_reducible first | refine aGo ?_ | refine rP Ty_ok mixed 5 [0, 1, 3, 7, 9] [.mid [pe 2, pe 4, pe 5, pe 6, pe 8, pe 10, pe 11, pe 12, pe 13, pe 14] 0, .one 15, .one 16] ?_ | refine rP Ty_ok mixed 9 [0, 1, 3, 7, 9] [.mid [pe 2, pe 4, pe 5, pe 6, pe 8, pe 10, pe 11, pe 12, pe 13, pe 14] 0, .one 15, .one 16] ?_ | refine rP Ty_ok mixed 20 [0, 2, 4, 9] [.mid [pe 1, pe 3, pe 5, pe 6, pe 7, pe 8, pe 10, pe 11, pe 12] 0, .one 13, .one 14, .one 15] ?_ | refine rP Ty_ok mixed 25 [0, 2, 6, 8] [.mid [pe 1, pe 3, pe 4, pe 5, pe 7, pe 9, pe 10, pe 11, pe 12, ⟨13, 0, true, false, false, [], []⟩] 1, .one 14] ?_ | refine rP Ty_ok mixed 32 [0, 2, 4, 9] [.mid [pe 1, pe 3, pe 5, pe 6, pe 7, pe 8, pe 10, pe 11, pe 12] 0, .one 13, .one 14, .one 15] ?_); simp only [hg, hq, hqj, hyd, hjf, go_sem]) | ((with_reducible refine aCd ?_ ?_ (fun hb => ?_) (fun hb => ?_)); (iterate 2 simp only [hg, hq, hqj, hyd, hjf, go_sem]); all_goals (simp only [hg, hq, hqj, hyd, hjf, go_sem] at hb; try simp only [bls] at hb)) | ((iterate 6 try ((fail_if_success with_reducible refine hK _ ?_ ?_ ?_); clear hK K)); with_reducible refine hK _ ?_ ?_ ?_; rotate_left; (focus (simp only [hg, hq, hqj, hyd, hjf, go_sem]; exact rfl)); clear hK K) | (with_reducible refine aGs (fun hg0 => ?_) (fun hg0 => ?_) <;> first | (with_reducible first | exact aF1 hg0 | exact aF2 hg0) | (simp only [hg0, hg, hq, hqj, hyd, hjf, go_sem])) | (with_reducible refine aNk ?_; intro bnil hnil; try simp only []) | exact aZ | fail))
    all_goals first | omega | rfl | skip
   ·rw [if_neg hc] at hns
    have hgn := niD_get (l := c.comps) (k := y.comp.toNat) (by omega) [.str [], .nil, .int .i64 0, .nil, .nil]
    generalize c.comps.getD y.comp.toNat NI.no = nm at *
    simp only [NI.d] at hgn
    (simp only [go_sem] at hL ⊢)
    (repeat' (first | (with_reducible first | exact True.intro | refine And.intro ?_ ?_ | refine aBl ?_ | (refine aS 15 [] ?_; intro K hK)) | ((with_reducible first | refine aGo ?_ | refine rP Ty_ok mixed 5 [0, 1, 3, 7, 9] [.mid [pe 2, pe 4, pe 5, pe 6, pe 8, pe 10, pe 11, pe 12, pe 13, pe 14] 0, .one 15, .one 16] ?_ | refine rP Ty_ok mixed 9 [0, 1, 3, 7, 9] [.mid [pe 2, pe 4, pe 5, pe 6, pe 8, pe 10, pe 11, pe 12, pe 13, pe 14] 0, .one 15, .one 16] ?_ | refine rP Ty_ok mixed 20 [0, 2, 4, 9] [.mid [pe 1, pe 3, pe 5, pe 6, pe 7, pe 8, pe 10, pe 11, pe 12] 0, .one 13, .one 14, .one 15] ?_ | refine rP Ty_ok mixed 25 [0, 2, 6, 8] [.mid [pe 1, pe 3, pe 4, pe 5, pe 7, pe 9, pe 10, pe 11, pe 12, ⟨13, 0, true, false, false, [], []⟩] 1, .one 14] ?_ | refine rP Ty_ok mixed 32 [0, 2, 4, 9] [.mid [pe 1, pe 3, pe 5, pe 6, pe 7, pe 8, pe 10, pe 11, pe 12] 0, .one 13, .one 14, .one 15] ?_); simp only [hg, hq, hqj, hyd, hjf, hgn, go_sem]) | ((with_reducible refine aCd ?_ ?_ (fun hb => ?_) (fun hb => ?_)); (iterate 2 simp only [hg, hq, hqj, hyd, hjf, hgn, go_sem]); all_goals (simp only [hg, hq, hqj, hyd, hjf, hgn, go_sem] at hb; try simp only [bls] at hb)) | ((iterate 6 try ((fail_if_success with_reducible refine hK _ ?_ ?_ ?_); clear hK K)); with_reducible refine hK _ ?_ ?_ ?_; rotate_left; (focus (simp only [hg, hq, hqj, hyd, hjf, hgn, go_sem]; exact rfl)); clear hK K) | (with_reducible refine aGs (fun hg0 => ?_) (fun hg0 => ?_) <;> first | (with_reducible first | exact aF1 hg0 | exact aF2 hg0) | (simp only [hg0, hg, hq, hqj, hyd, hjf, hgn, go_sem])) | (with_reducible refine aNk ?_; intro bnil hnil; try simp only []) | exact aZ | fail))
    all_goals first | omega | skip
    refine hL _ (j + 1, q ++ [⟨nm.name, y.val⟩]) ⟨by omega, hns, by simp; omega⟩ ?_ (by omega)
    rw [← lts_append, ← lts_one]
    (simp only [SubF, go_sem]; (try simp only [go_sem]); repeat' (first | exact True.intro | with_reducible refine And.intro ?_ ?_ | rfl | omega))
  have hjk : j = e.terms.length := by omega
  subst hjk
  have hjf : decide ((e.terms.length : Int) < e.terms.length) = false := decide_eq_false (by omega)
  rw [List.drop_length, hM] at hrq
  have hMq : M = some q := by rw [hrq]; simp [namedL]
  subst hMq
  have hYs : Y = some ⟨4, e.name, AU.no, [], q, e.bound⟩ := hR0
  rw [hYs] at hs
  have hs2 : itW (G ++ (p ++ [⟨4, e.name, AU.no, [], q, e.bound⟩])) = itW (G ++ p) ++ [It.dw ⟨4, e.name, AU.no, [], q, e.bound⟩] := by rw [← List.append_assoc, itW_snoc]
  rw [dw_cond4] at hs2
  (simp only [go_sem] at hL ⊢)
  (repeat' (first | (with_reducible first | exact True.intro | refine And.intro ?_ ?_ | refine aBl ?_ | (refine aS 15 [] ?_; intro K hK)) | ((with_reducible first | refine aGo ?_ | refine rP Ty_ok mixed 5 [0, 1, 3, 7, 9] [.mid [pe 2, pe 4, pe 5, pe 6, pe 8, pe 10, pe 11, pe 12, pe 13, pe 14] 0, .one 15, .one 16] ?_ | refine rP Ty_ok mixed 9 [0, 1, 3, 7, 9] [.mid [pe 2, pe 4, pe 5, pe 6, pe 8, pe 10, pe 11, pe 12, pe 13, pe 14] 0, .one 15, .one 16] ?_ | refine rP Ty_ok mixed 20 [0, 2, 4, 9] [.mid [pe 1, pe 3, pe 5, pe 6, pe 7, pe 8, pe 10, pe 11, pe 12] 0, .one 13, .one 14, .one 15] ?_ | refine rP Ty_ok mixed 25 [0, 2, 6, 8] [.mid [pe 1, pe 3, pe 4, pe 5, pe 7, pe 9, pe 10, pe 11, pe 12, ⟨13, 0, true, false, false, [], []⟩] 1, .one 14] ?_ | refine rP Ty_ok mixed 32 [0, 2, 4, 9] [.mid [pe 1, pe 3, pe 5, pe 6, pe 7, pe 8, pe 10, pe 11, pe 12] 0, .one 13, .one 14, .one 15] ?_); simp only [hg, hq, hjf, go_sem]) | ((with_reducible refine aCd ?_ ?_ (fun hb => ?_) (fun hb => ?_)); (iterate 2 simp only [hg, hq, hjf, go_sem]); all_goals (simp only [hg, hq, hjf, go_sem] at hb; try simp only [bls] at hb)) | ((iterate 6 try ((fail_if_success with_reducible refine hK _ ?_ ?_ ?_); clear hK K)); with_reducible refine hK _ ?_ ?_ ?_; rotate_left; (focus (simp only [hg, hq, hjf, go_sem]; exact rfl)); clear hK K) | (with_reducible refine aGs (fun hg0 => ?_) (fun hg0 => ?_) <;> first | (with_reducible first | exact aF1 hg0 | exact aF2 hg0) | (simp only [hg0, hg, hq, hjf, go_sem])) | (with_reducible refine aNk ?_; intro bnil hnil; try simp only []) | exact aZ | fail))
  all_goals first | omega | skip
  refine hLo _ (k + 1, p ++ [⟨4, e.name, AU.no, [], q, e.bound⟩]) ⟨by omega, hs, by simp; omega⟩ ?_ (by omega)
  rw [hs2]
  (simp only [SubF, List.set_cons_succ, List.set_cons_zero, go_sem]; (try simp only [List.set_cons_succ, List.set_cons_zero, go_sem]); repeat' (first | exact True.intro | with_reducible refine And.intro ?_ ?_ | rfl | omega))
 have hkl : k = c.cons.length := by omega
 subst hkl
 have hlf : decide ((c.cons.length : Int) < c.cons.length) = false := decide_eq_false (by omega)
 rw [List.drop_length] at hres
 have hNp : N = some p := by rw [hres]; simp [allO]
 subst hNp
 have hW : W = some (G ++ p) := by rw [hraw]; show some (B ++ _ ++ p) = _; rw [hGp]
 subst hW
 have hck := lawcheckW_c (G ++ p) (hrf rfl)
 generalize G ++ p = Z at *
 have hR2 : R = (Z, chkL Z) := hR
 subst hR2
 generalize chkL Z = z at *
 (simp only [List.set_cons_succ, List.set_cons_zero, go_sem] at hLo ⊢)
 (repeat' (first | (with_reducible first | exact True.intro | refine And.intro ?_ ?_ | refine aBl ?_ | (refine aS 15 [] ?_; intro K hK)) | ((with_reducible first | refine aGo ?_ | refine rP Ty_ok mixed 5 [0, 1, 3, 7, 9] [.mid [pe 2, pe 4, pe 5, pe 6, pe 8, pe 10, pe 11, pe 12, pe 13, pe 14] 0, .one 15, .one 16] ?_ | refine rP Ty_ok mixed 9 [0, 1, 3, 7, 9] [.mid [pe 2, pe 4, pe 5, pe 6, pe 8, pe 10, pe 11, pe 12, pe 13, pe 14] 0, .one 15, .one 16] ?_ | refine rP Ty_ok mixed 20 [0, 2, 4, 9] [.mid [pe 1, pe 3, pe 5, pe 6, pe 7, pe 8, pe 10, pe 11, pe 12] 0, .one 13, .one 14, .one 15] ?_ | refine rP Ty_ok mixed 25 [0, 2, 6, 8] [.mid [pe 1, pe 3, pe 4, pe 5, pe 7, pe 9, pe 10, pe 11, pe 12, ⟨13, 0, true, false, false, [], []⟩] 1, .one 14] ?_ | refine rP Ty_ok mixed 32 [0, 2, 4, 9] [.mid [pe 1, pe 3, pe 5, pe 6, pe 7, pe 8, pe 10, pe 11, pe 12] 0, .one 13, .one 14, .one 15] ?_); simp only [hlf, go_sem]) | ((with_reducible refine aCd ?_ ?_ (fun hb => ?_) (fun hb => ?_)); (iterate 2 simp only [hlf, go_sem]); all_goals (simp only [hlf, go_sem] at hb; try simp only [bls] at hb)) | ((iterate 6 try ((fail_if_success with_reducible refine hK _ ?_ ?_ ?_); clear hK K)); with_reducible refine hK _ ?_ ?_ ?_; rotate_left; (focus (simp only [hlf, go_sem]; exact rfl)); clear hK K) | ((first | (with_reducible first | refine xA ?_ | refine xD ?_ | refine xO ?_ | refine xR ?_ | refine xG ?_ | refine xH ?_ | refine xM ?_) | ((with_reducible refine gA ?_); refine xA ?_) | ((with_reducible refine gD ?_); refine xD ?_) | ((with_reducible refine gG ?_); refine xG ?_)); simp only [hlf, go_sem]) | (with_reducible refine aGs (fun hg0 => ?_) (fun hg0 => ?_) <;> first | (with_reducible first | exact aF1 hg0 | exact aF2 hg0) | (simp only [hg0, hlf, go_sem])) | (with_reducible refine aNk ?_; intro bnil hnil; try simp only []) | exact aZ | fail))
 all_goals first | omega | rfl | skip
theorem lawitems_c (E : List (List D)) (c : CE) (hf : c.Fits) : ACalls Tryz.prog 23 [.agg (cellD E c)] (.tup [.one (.list (itD (lawItems c).1)), .one (.int .i64 (lawItems c).2)]) [] :=
 ACalls.weak (leV_tup (us := [.one (.list (itW (lawItems c).1)), .one (.int .i64 (lawItems c).2)]) ⟨leV_one rfl rfl (leD_list (itW_le _)), LeV.refl _, trivial⟩) (lawitemsW_c E c hf)
end Go.Proofs.YtkjnjkdcpbgabaaGreatDoor
