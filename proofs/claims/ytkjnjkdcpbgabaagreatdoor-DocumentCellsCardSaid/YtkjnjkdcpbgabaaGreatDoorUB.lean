/-
 Chapter 23: Items.
-/
import Derived.Test.YtkjnjkdcpbgabaaGreatDoorUA
set_option linter.unusedSimpArgs false
set_option linter.unusedVariables false
namespace Go.Proofs.YtkjnjkdcpbgabaaGreatDoor
open Go.Eng Go.RowKit
def cellD (E : List (List D)) (c : CE) : List D := [.list E, .list (niD c.comps), .list (niD c.reqs), .list (exD c.excl), .list (cnD c.cons)]
theorem compI_fits {k : Int} {x : NI} (h : x.name.length ≤ 1000 ∧ x.aut.Fits) : (compI k x).Fits := ⟨h.1, h.2, by simp [compI], by simp [compI], fun y hy => by simp [compI] at hy, fun y hy => by simp [compI] at hy⟩
theorem noAU_fits : AU.no.Fits := ⟨by decide, by decide, by decide⟩
theorem exI_fits {cs : List NI} {x : Ex} {y : It} (hc : ∀ x ∈ cs, x.name.length ≤ 1000 ∧ x.aut.Fits) (hx : x.name.length ≤ 1000 ∧ x.locs.length ≤ 1000) (h : exI cs x = some y) : y.Fits := by
 rw [exI, Option.map_eq_some_iff] at h
 obtain ⟨r, h1, rfl⟩ := h
 obtain ⟨h2, h3⟩ := named_len h1
 refine ⟨hx.1, noAU_fits, by simp only; omega, by simp, fun z hz => ?_, fun z hz => by simp at hz⟩
 obtain ⟨w, hw, e⟩ := h3 z hz
 rw [e]
 exact (hc w hw).1
theorem cnI_fits {cs : List NI} {x : Cn} {y : It} (hc : ∀ x ∈ cs, x.name.length ≤ 1000 ∧ x.aut.Fits) (hx : x.name.length ≤ 1000 ∧ x.terms.length ≤ 1000) (h : cnI cs x = some y) : y.Fits := by
 rw [cnI, Option.map_eq_some_iff] at h
 obtain ⟨r, h1, rfl⟩ := h
 obtain ⟨h2, h3⟩ := named_len h1
 refine ⟨hx.1, noAU_fits, by simp, by simp only; omega, fun z hz => by simp at hz, fun z hz => ?_⟩
 obtain ⟨w, hw, e⟩ := h3 z hz
 rw [e]
 exact (hc w hw).1
theorem rawI_fits {c : CE} (h : c.Fits) {l : List It} (hr : rawI c = some l) : LFits l := by
 rw [rawI] at hr
 cases ha : allO (exI c.comps) c.excl with
 | none => rw [ha] at hr; cases hr
 | some a =>
  rw [ha] at hr
  simp only [Option.map_eq_some_iff] at hr
  obtain ⟨b, hb, rfl⟩ := hr
  obtain ⟨a1, a2⟩ := allO_len ha
  obtain ⟨b1, b2⟩ := allO_len hb
  have h1 := h.comps.1
  have h2 := h.reqs.1
  have h3 := h.excl.1
  have h4 := h.cons.1
  refine ⟨by simp only [List.length_append, List.length_map]; omega, fun x hx => ?_⟩
  simp only [List.mem_append, List.mem_map] at hx
  rcases hx with ((⟨y, hy, rfl⟩ | ⟨y, hy, rfl⟩) | hx) | hx
  ·exact compI_fits (h.comps.2 y hy)
  ·exact compI_fits (h.reqs.2 y hy)
  ·obtain ⟨y, hy, e⟩ := a2 x hx
   exact exI_fits h.comps.2 (h.excl.2 y hy) e
  ·obtain ⟨y, hy, e⟩ := b2 x hx
   exact cnI_fits h.comps.2 (h.cons.2 y hy) e
theorem map_take_succ {α β : Type} (f : α → β) (l : List α) (k : Nat) (d : α) (hk : k < l.length) : (l.take (k + 1)).map f = (l.take k).map f ++ [f (l.getD k d)] := by
 rw [take_succ_getD l k d hk, List.map_append]; rfl
set_option maxHeartbeats 32000000 in
theorem Items_c (E : List (List D)) (c : CE) (hf : c.Fits) : ACalls Tryz.prog 22 [.agg (cellD E c)] (.tup [.one (.list (itD (itemsR c).1)), .one (.int .i64 (itemsR c).2)]) [] := by
 have h1 := hf.comps.1
 have h2 := hf.reqs.1
 have h3 := hf.excl.1
 have h4 := hf.cons.1
 have hR : itemsR c = match rawI c with | none => ([], 2) | some l => if chkL l ≠ 0 then ([], chkL l) else (l, 0) := rfl
 have hraw : rawI c = match allO (exI c.comps) c.excl with | none => none | some a => (allO (cnI c.comps) c.cons).map fun b => c.comps.map (compI 1) ++ c.reqs.map (compI 2) ++ a ++ b := rfl
 have hrf := @rawI_fits c hf
 generalize itemsR c = R at *
 generalize rawI c = W at *
 have e0 : itD [] = [] := rfl
 (refine ACalls.of_body Ty_ok mixed Tryz.func22 rfl (by kernel_rfl) Tryz.ntmps22 (by simp) (congrArg Array.toList Tryz.results22) ?_)
 simp only [slotsOf, cellD]
 (repeat' (first | (with_reducible first | exact True.intro | refine And.intro ?_ ?_ | refine aBl ?_ | (refine aS 18 [20, 19, 21, 37, 36, 38, 54, 53, 55, 76, 75, 77] ?_; intro K hK)) | ((with_reducible first | refine aGo ?_); simp only [go_sem]) | ((with_reducible refine aCd ?_ ?_ (fun hb => ?_) (fun hb => ?_)); (iterate 2 simp only [go_sem]); all_goals (simp only [go_sem] at hb; try simp only [bls] at hb)) | ((iterate 6 try ((fail_if_success with_reducible refine hK _ ?_ ?_ ?_); clear hK K)); with_reducible refine hK _ ?_ ?_ ?_; rotate_left; (focus (simp only [go_sem]; exact rfl)); clear hK K) | (with_reducible refine aGs (fun hg0 => ?_) (fun hg0 => ?_) <;> first | (with_reducible first | exact aF1 hg0 | exact aF2 hg0) | (simp only [hg0, go_sem])) | (with_reducible refine aNk ?_; intro bnil hnil; try simp only []) | exact aZ | fail))
 all_goals first | omega | skip
 refine awp_loop _ (by simp only [go_sem]; rfl) Nat (fun k => k ≤ c.comps.length) (fun k => [(4, .one (.own 2)), (21, .one (.int .i64 k))]) (fun k H => H.set 2 (.row 30 9 (itD ((c.comps.take k).map (compI 1))))) (fun k => c.comps.length - k) 0 (by omega) ?_ ?_
 ·have e0 : itD ((c.comps.take 0).map (compI 1)) = [] := rfl
  rw [e0]
  (simp only [SubF, List.set_cons_succ, List.set_cons_zero, go_sem]; (try simp only [List.set_cons_succ, List.set_cons_zero, go_sem]); repeat' (first | exact True.intro | with_reducible refine And.intro ?_ ?_ | rfl | omega))
 rintro k hk L hL
 have hq : ((k : Nat) : Int).toNat = k := by omega
 have hml : ((c.comps.take k).map (compI 1)).length = k := by rw [List.length_map, List.length_take]; omega
 by_cases hlt : k < c.comps.length
 ·have hg := niD_get hlt [.str [], .nil, .int .i64 0, .nil, .nil]
  have hcl := clone_c (compI 1 (c.comps.getD k NI.no)) (compI_fits (hf.comps.2 _ (getD_mem _ k _ hlt)))
  have hs : itD ((c.comps.take (k + 1)).map (compI 1)) = itD ((c.comps.take k).map (compI 1)) ++ [(compI 1 (c.comps.getD k NI.no)).d] := by rw [map_take_succ _ _ _ NI.no hlt, ← itD_append]; rfl
  generalize c.comps.getD k NI.no = e at *
  simp only [It.d, compI, NI.d, show ltD [] = [] from rfl] at hg hcl hs
  (simp only [List.set_cons_succ, List.set_cons_zero, go_sem] at hL ⊢)
  (repeat' (first | (with_reducible first | exact True.intro | refine And.intro ?_ ?_ | refine aBl ?_ | (refine aS 18 [20, 19, 21, 37, 36, 38, 54, 53, 55, 76, 75, 77] ?_; intro K hK)) | ((with_reducible first | refine aGo ?_); simp only [hg, hq, go_sem]) | ((with_reducible refine aCd ?_ ?_ (fun hb => ?_) (fun hb => ?_)); (iterate 2 simp only [hg, hq, go_sem]); all_goals (simp only [hg, hq, go_sem] at hb; try simp only [bls] at hb)) | ((iterate 6 try ((fail_if_success with_reducible refine hK _ ?_ ?_ ?_); clear hK K)); with_reducible refine hK _ ?_ ?_ ?_; rotate_left; (focus (simp only [hg, hq, go_sem]; exact rfl)); clear hK K) | ((first | (with_reducible first | refine xA ?_ | refine xD ?_ | refine xO ?_ | refine xR ?_ | refine xG ?_ | refine xH ?_ | refine xM ?_) | ((with_reducible refine gA ?_); refine xA ?_) | ((with_reducible refine gD ?_); refine xD ?_) | ((with_reducible refine gG ?_); refine xG ?_)); simp only [hg, hq, go_sem]) | (with_reducible refine aGs (fun hg0 => ?_) (fun hg0 => ?_) <;> first | (with_reducible first | exact aF1 hg0 | exact aF2 hg0) | (simp only [hg0, hg, hq, go_sem])) | (with_reducible refine aNk ?_; intro bnil hnil; try simp only []) | exact aZ | fail))
  all_goals first | omega | skip
  refine hL _ (k + 1) (by omega) ?_ (by omega)
  rw [hs]
  (simp only [SubF, List.set_cons_succ, List.set_cons_zero, go_sem]; (try simp only [List.set_cons_succ, List.set_cons_zero, go_sem]); repeat' (first | exact True.intro | with_reducible refine And.intro ?_ ?_ | rfl | omega))
 have hkl : k = c.comps.length := by omega
 subst hkl
 rw [List.take_length] at *
 (simp only [List.set_cons_succ, List.set_cons_zero, go_sem] at hL ⊢)
 (repeat' (first | (with_reducible first | exact True.intro | refine And.intro ?_ ?_ | refine aBl ?_ | (refine aS 18 [20, 19, 21, 37, 36, 38, 54, 53, 55, 76, 75, 77] ?_; intro K hK)) | ((with_reducible first | refine aGo ?_); simp only [go_sem]) | ((with_reducible refine aCd ?_ ?_ (fun hb => ?_) (fun hb => ?_)); (iterate 2 simp only [go_sem]); all_goals (simp only [go_sem] at hb; try simp only [bls] at hb)) | ((iterate 6 try ((fail_if_success with_reducible refine hK _ ?_ ?_ ?_); clear hK K)); with_reducible refine hK _ ?_ ?_ ?_; rotate_left; (focus (simp only [go_sem]; exact rfl)); clear hK K) | (with_reducible refine aGs (fun hg0 => ?_) (fun hg0 => ?_) <;> first | (with_reducible first | exact aF1 hg0 | exact aF2 hg0) | (simp only [hg0, go_sem])) | (with_reducible refine aNk ?_; intro bnil hnil; try simp only []) | exact aZ | fail))
 all_goals first | omega | skip
 have hAl : (c.comps.map (compI 1)).length = c.comps.length := by simp
 generalize c.comps.map (compI 1) = A at *
 refine awp_loop _ (by simp only [go_sem]; rfl) Nat (fun k => k ≤ c.reqs.length) (fun k => [(4, .one (.own 2)), (38, .one (.int .i64 k))]) (fun k H => H.set 2 (.row 30 9 (itD (A ++ (c.reqs.take k).map (compI 2))))) (fun k => c.reqs.length - k) 0 (by omega) ?_ ?_
 ·have e0 : itD (A ++ (c.reqs.take 0).map (compI 2)) = itD A := by simp
  rw [e0]
  (simp only [SubF, List.set_cons_succ, List.set_cons_zero, go_sem]; (try simp only [List.set_cons_succ, List.set_cons_zero, go_sem]); repeat' (first | exact True.intro | with_reducible refine And.intro ?_ ?_ | rfl | omega))
 clear hL
 rintro k hk L hL
 have hq : ((k : Nat) : Int).toNat = k := by omega
 have hml : (A ++ (c.reqs.take k).map (compI 2)).length = A.length + k := by rw [List.length_append, List.length_map, List.length_take]; omega
 by_cases hlt : k < c.reqs.length
 ·have hg := niD_get hlt [.str [], .nil, .int .i64 0, .nil, .nil]
  have hcl := clone_c (compI 2 (c.reqs.getD k NI.no)) (compI_fits (hf.reqs.2 _ (getD_mem _ k _ hlt)))
  have hs : itD (A ++ (c.reqs.take (k + 1)).map (compI 2)) = itD (A ++ (c.reqs.take k).map (compI 2)) ++ [(compI 2 (c.reqs.getD k NI.no)).d] := by rw [map_take_succ _ _ _ NI.no hlt, ← List.append_assoc, ← itD_append _ [_]]; rfl
  generalize c.reqs.getD k NI.no = e at *
  simp only [It.d, compI, NI.d, show ltD [] = [] from rfl] at hg hcl hs
  (simp only [List.set_cons_succ, List.set_cons_zero, go_sem] at hL ⊢)
  (repeat' (first | (with_reducible first | exact True.intro | refine And.intro ?_ ?_ | refine aBl ?_ | (refine aS 18 [20, 19, 21, 37, 36, 38, 54, 53, 55, 76, 75, 77] ?_; intro K hK)) | ((with_reducible first | refine aGo ?_); simp only [hg, hq, go_sem]) | ((with_reducible refine aCd ?_ ?_ (fun hb => ?_) (fun hb => ?_)); (iterate 2 simp only [hg, hq, go_sem]); all_goals (simp only [hg, hq, go_sem] at hb; try simp only [bls] at hb)) | ((iterate 6 try ((fail_if_success with_reducible refine hK _ ?_ ?_ ?_); clear hK K)); with_reducible refine hK _ ?_ ?_ ?_; rotate_left; (focus (simp only [hg, hq, go_sem]; exact rfl)); clear hK K) | ((first | (with_reducible first | refine xA ?_ | refine xD ?_ | refine xO ?_ | refine xR ?_ | refine xG ?_ | refine xH ?_ | refine xM ?_) | ((with_reducible refine gA ?_); refine xA ?_) | ((with_reducible refine gD ?_); refine xD ?_) | ((with_reducible refine gG ?_); refine xG ?_)); simp only [hg, hq, go_sem]) | (with_reducible refine aGs (fun hg0 => ?_) (fun hg0 => ?_) <;> first | (with_reducible first | exact aF1 hg0 | exact aF2 hg0) | (simp only [hg0, hg, hq, go_sem])) | (with_reducible refine aNk ?_; intro bnil hnil; try simp only []) | exact aZ | fail))
  all_goals first | omega | skip
  refine hL _ (k + 1) (by omega) ?_ (by omega)
  rw [hs]
  (simp only [SubF, List.set_cons_succ, List.set_cons_zero, go_sem]; (try simp only [List.set_cons_succ, List.set_cons_zero, go_sem]); repeat' (first | exact True.intro | with_reducible refine And.intro ?_ ?_ | rfl | omega))
 have hkl : k = c.reqs.length := by omega
 subst hkl
 rw [List.take_length] at *
 (simp only [List.set_cons_succ, List.set_cons_zero, go_sem] at hL ⊢)
 (repeat' (first | (with_reducible first | exact True.intro | refine And.intro ?_ ?_ | refine aBl ?_ | (refine aS 18 [20, 19, 21, 37, 36, 38, 54, 53, 55, 76, 75, 77] ?_; intro K hK)) | ((with_reducible first | refine aGo ?_); simp only [go_sem]) | ((with_reducible refine aCd ?_ ?_ (fun hb => ?_) (fun hb => ?_)); (iterate 2 simp only [go_sem]); all_goals (simp only [go_sem] at hb; try simp only [bls] at hb)) | ((iterate 6 try ((fail_if_success with_reducible refine hK _ ?_ ?_ ?_); clear hK K)); with_reducible refine hK _ ?_ ?_ ?_; rotate_left; (focus (simp only [go_sem]; exact rfl)); clear hK K) | (with_reducible refine aGs (fun hg0 => ?_) (fun hg0 => ?_) <;> first | (with_reducible first | exact aF1 hg0 | exact aF2 hg0) | (simp only [hg0, go_sem])) | (with_reducible refine aNk ?_; intro bnil hnil; try simp only []) | exact aZ | fail))
 all_goals first | omega | skip
 generalize A ++ c.reqs.map (compI 2) = B at *
 generalize hN : allO (exI c.comps) c.excl = N at *
 clear hL
 refine awp_loop _ (by simp only [go_sem]; rfl) (Nat × List It) (fun s => s.1 ≤ c.excl.length ∧ N = (allO (exI c.comps) (c.excl.drop s.1)).map (s.2 ++ ·) ∧ s.2.length = s.1) (fun s => [(4, .one (.own 2)), (55, .one (.int .i64 s.1))]) (fun s H => H.set 2 (.row 30 9 (itD (B ++ s.2)))) (fun s => c.excl.length - s.1) (0, []) ⟨by omega, by rw [← hN]; simp, rfl⟩ ?_ ?_
 ·have e0 : itD (B ++ []) = itD B := by simp
  rw [e0]
  (simp only [SubF, List.set_cons_succ, List.set_cons_zero, go_sem]; (try simp only [List.set_cons_succ, List.set_cons_zero, go_sem]); repeat' (first | exact True.intro | with_reducible refine And.intro ?_ ?_ | rfl | omega))
 rintro ⟨k, p⟩ ⟨hk, hres, hpl⟩ L hL
 dsimp only at hk hres hpl
 have hq : ((k : Nat) : Int).toNat = k := by omega
 have hbl : (B ++ p).length = A.length + c.reqs.length + k := by rw [List.length_append]; omega
 by_cases hlt : k < c.excl.length
 ·have hg := exD_get hlt [.str [], .nil]
  have hs := allO_step (d := Ex.no) hlt hres
  have hx := hf.excl.2 _ (getD_mem _ k Ex.no hlt)
  have hc := exclusion_c c.comps (c.excl.getD k Ex.no) (by omega) hx.2
  generalize c.excl.getD k Ex.no = e at *
  cases hy : exI c.comps e with
  | none =>
   rw [hy] at hs hc
   subst hs
   rw [hraw] at hR
   subst hR
   have e1 : ((none : Option It).getD It.no).d = It.no.d := rfl
   have e2 : (if (none : Option It).isSome = true then (0 : Int) else 2) = 2 := rfl
   rw [e1, e2] at hc
   simp only [It.d, Ex.d, It.no, AU.no, show ltD [] = [] from rfl, show ints [] = [] from rfl, show edD [] = [] from rfl] at hg hc
   (simp only [List.set_cons_succ, List.set_cons_zero, go_sem] at hL ⊢)
   (repeat' (first | (with_reducible first | exact True.intro | refine And.intro ?_ ?_ | refine aBl ?_ | (refine aS 18 [20, 19, 21, 37, 36, 38, 54, 53, 55, 76, 75, 77] ?_; intro K hK)) | ((with_reducible first | refine aGo ?_); simp only [hg, hq, go_sem]) | ((with_reducible refine aCd ?_ ?_ (fun hb => ?_) (fun hb => ?_)); (iterate 2 simp only [hg, hq, go_sem]); all_goals (simp only [hg, hq, go_sem] at hb; try simp only [bls] at hb)) | ((iterate 6 try ((fail_if_success with_reducible refine hK _ ?_ ?_ ?_); clear hK K)); with_reducible refine hK _ ?_ ?_ ?_; rotate_left; (focus (simp only [hg, hq, go_sem]; exact rfl)); clear hK K) | ((first | (with_reducible first | refine xA ?_ | refine xD ?_ | refine xO ?_ | refine xR ?_ | refine xG ?_ | refine xH ?_ | refine xM ?_) | ((with_reducible refine gA ?_); refine xA ?_) | ((with_reducible refine gD ?_); refine xD ?_) | ((with_reducible refine gG ?_); refine xG ?_)); simp only [hg, hq, go_sem]) | (with_reducible refine aGs (fun hg0 => ?_) (fun hg0 => ?_) <;> first | (with_reducible first | exact aF1 hg0 | exact aF2 hg0) | (simp only [hg0, hg, hq, go_sem])) | (with_reducible refine aNk ?_; intro bnil hnil; try simp only []) | exact aZ | fail))
   all_goals first | omega | rfl | skip
  | some y =>
   rw [hy] at hs hc
   have e1 : ((some y).getD It.no).d = y.d := rfl
   have e2 : (if (some y).isSome = true then (0 : Int) else 2) = 0 := rfl
   rw [e1, e2] at hc
   have hs2 : itD (B ++ (p ++ [y])) = itD (B ++ p) ++ [y.d] := by rw [← List.append_assoc, ← itD_append _ [y]]; rfl
   simp only [It.d, Ex.d] at hg hc hs2
   (simp only [List.set_cons_succ, List.set_cons_zero, go_sem] at hL ⊢)
   (repeat' (first | (with_reducible first | exact True.intro | refine And.intro ?_ ?_ | refine aBl ?_ | (refine aS 18 [20, 19, 21, 37, 36, 38, 54, 53, 55, 76, 75, 77] ?_; intro K hK)) | ((with_reducible first | refine aGo ?_); simp only [hg, hq, go_sem]) | ((with_reducible refine aCd ?_ ?_ (fun hb => ?_) (fun hb => ?_)); (iterate 2 simp only [hg, hq, go_sem]); all_goals (simp only [hg, hq, go_sem] at hb; try simp only [bls] at hb)) | ((iterate 6 try ((fail_if_success with_reducible refine hK _ ?_ ?_ ?_); clear hK K)); with_reducible refine hK _ ?_ ?_ ?_; rotate_left; (focus (simp only [hg, hq, go_sem]; exact rfl)); clear hK K) | ((first | (with_reducible first | refine xA ?_ | refine xD ?_ | refine xO ?_ | refine xR ?_ | refine xG ?_ | refine xH ?_ | refine xM ?_) | ((with_reducible refine gA ?_); refine xA ?_) | ((with_reducible refine gD ?_); refine xD ?_) | ((with_reducible refine gG ?_); refine xG ?_)); simp only [hg, hq, go_sem]) | (with_reducible refine aGs (fun hg0 => ?_) (fun hg0 => ?_) <;> first | (with_reducible first | exact aF1 hg0 | exact aF2 hg0) | (simp only [hg0, hg, hq, go_sem])) | (with_reducible refine aNk ?_; intro bnil hnil; try simp only []) | exact aZ | fail))
   all_goals first | omega | skip
   refine hL _ (k + 1, p ++ [y]) ⟨by omega, hs, by simp; omega⟩ ?_ (by omega)
   rw [hs2]
   (simp only [SubF, List.set_cons_succ, List.set_cons_zero, go_sem]; (try simp only [List.set_cons_succ, List.set_cons_zero, go_sem]); repeat' (first | exact True.intro | with_reducible refine And.intro ?_ ?_ | rfl | omega))
 have hkl : k = c.excl.length := by omega
 subst hkl
 rw [List.drop_length] at hres
 have hNp : N = some p := by rw [hres]; simp [allO]
 subst hNp
 (simp only [List.set_cons_succ, List.set_cons_zero, go_sem] at hL ⊢)
 (repeat' (first | (with_reducible first | exact True.intro | refine And.intro ?_ ?_ | refine aBl ?_ | (refine aS 18 [20, 19, 21, 37, 36, 38, 54, 53, 55, 76, 75, 77] ?_; intro K hK)) | ((with_reducible first | refine aGo ?_); simp only [go_sem]) | ((with_reducible refine aCd ?_ ?_ (fun hb => ?_) (fun hb => ?_)); (iterate 2 simp only [go_sem]); all_goals (simp only [go_sem] at hb; try simp only [bls] at hb)) | ((iterate 6 try ((fail_if_success with_reducible refine hK _ ?_ ?_ ?_); clear hK K)); with_reducible refine hK _ ?_ ?_ ?_; rotate_left; (focus (simp only [go_sem]; exact rfl)); clear hK K) | (with_reducible refine aGs (fun hg0 => ?_) (fun hg0 => ?_) <;> first | (with_reducible first | exact aF1 hg0 | exact aF2 hg0) | (simp only [hg0, go_sem])) | (with_reducible refine aNk ?_; intro bnil hnil; try simp only []) | exact aZ | fail))
 all_goals first | omega | skip
 clear hL
 generalize hGp : B ++ p = G at *
 generalize hN : allO (cnI c.comps) c.cons = N at *
 refine awp_loop _ (by simp only [go_sem]; rfl) (Nat × List It) (fun s => s.1 ≤ c.cons.length ∧ N = (allO (cnI c.comps) (c.cons.drop s.1)).map (s.2 ++ ·) ∧ s.2.length = s.1) (fun s => [(4, .one (.own 2)), (77, .one (.int .i64 s.1))]) (fun s H => H.set 2 (.row 30 9 (itD (G ++ s.2)))) (fun s => c.cons.length - s.1) (0, []) ⟨by omega, by rw [← hN]; simp, rfl⟩ ?_ ?_
 ·have e0 : itD (G ++ []) = itD G := by simp
  rw [e0]
  (simp only [SubF, List.set_cons_succ, List.set_cons_zero, go_sem]; (try simp only [List.set_cons_succ, List.set_cons_zero, go_sem]); repeat' (first | exact True.intro | with_reducible refine And.intro ?_ ?_ | rfl | omega))
 rintro ⟨k, q⟩ ⟨hk, hres, hpl⟩ L hL
 dsimp only at hk hres hpl
 have hq : ((k : Nat) : Int).toNat = k := by omega
 have hgl : (G ++ q).length = A.length + c.reqs.length + c.excl.length + k := by rw [List.length_append]; omega
 by_cases hlt : k < c.cons.length
 ·have hg := cnD_get hlt [.str [], .nil, .int .i64 0]
  have hs := allO_step (d := Cn.no) hlt hres
  have hx := hf.cons.2 _ (getD_mem _ k Cn.no hlt)
  have hc := constraint_c c.comps (c.cons.getD k Cn.no) (by omega) hx.2
  generalize c.cons.getD k Cn.no = e at *
  cases hy : cnI c.comps e with
  | none =>
   rw [hy] at hs hc
   subst hs
   rw [hraw] at hR
   subst hR
   have e1 : ((none : Option It).getD It.no).d = It.no.d := rfl
   have e2 : (if (none : Option It).isSome = true then (0 : Int) else 2) = 2 := rfl
   rw [e1, e2] at hc
   simp only [It.d, Cn.d, It.no, AU.no, show ltD [] = [] from rfl, show ints [] = [] from rfl, show edD [] = [] from rfl] at hg hc
   (simp only [List.set_cons_succ, List.set_cons_zero, go_sem] at hL ⊢)
   (repeat' (first | (with_reducible first | exact True.intro | refine And.intro ?_ ?_ | refine aBl ?_ | (refine aS 18 [20, 19, 21, 37, 36, 38, 54, 53, 55, 76, 75, 77] ?_; intro K hK)) | ((with_reducible first | refine aGo ?_); simp only [hg, hq, go_sem]) | ((with_reducible refine aCd ?_ ?_ (fun hb => ?_) (fun hb => ?_)); (iterate 2 simp only [hg, hq, go_sem]); all_goals (simp only [hg, hq, go_sem] at hb; try simp only [bls] at hb)) | ((iterate 6 try ((fail_if_success with_reducible refine hK _ ?_ ?_ ?_); clear hK K)); with_reducible refine hK _ ?_ ?_ ?_; rotate_left; (focus (simp only [hg, hq, go_sem]; exact rfl)); clear hK K) | ((first | (with_reducible first | refine xA ?_ | refine xD ?_ | refine xO ?_ | refine xR ?_ | refine xG ?_ | refine xH ?_ | refine xM ?_) | ((with_reducible refine gA ?_); refine xA ?_) | ((with_reducible refine gD ?_); refine xD ?_) | ((with_reducible refine gG ?_); refine xG ?_)); simp only [hg, hq, go_sem]) | (with_reducible refine aGs (fun hg0 => ?_) (fun hg0 => ?_) <;> first | (with_reducible first | exact aF1 hg0 | exact aF2 hg0) | (simp only [hg0, hg, hq, go_sem])) | (with_reducible refine aNk ?_; intro bnil hnil; try simp only []) | exact aZ | fail))
   all_goals first | omega | rfl | skip
  | some y =>
   rw [hy] at hs hc
   have e1 : ((some y).getD It.no).d = y.d := rfl
   have e2 : (if (some y).isSome = true then (0 : Int) else 2) = 0 := rfl
   rw [e1, e2] at hc
   have hs2 : itD (G ++ (q ++ [y])) = itD (G ++ q) ++ [y.d] := by rw [← List.append_assoc, ← itD_append _ [y]]; rfl
   simp only [It.d, Cn.d] at hg hc hs2
   (simp only [List.set_cons_succ, List.set_cons_zero, go_sem] at hL ⊢)
   (repeat' (first | (with_reducible first | exact True.intro | refine And.intro ?_ ?_ | refine aBl ?_ | (refine aS 18 [20, 19, 21, 37, 36, 38, 54, 53, 55, 76, 75, 77] ?_; intro K hK)) | ((with_reducible first | refine aGo ?_); simp only [hg, hq, go_sem]) | ((with_reducible refine aCd ?_ ?_ (fun hb => ?_) (fun hb => ?_)); (iterate 2 simp only [hg, hq, go_sem]); all_goals (simp only [hg, hq, go_sem] at hb; try simp only [bls] at hb)) | ((iterate 6 try ((fail_if_success with_reducible refine hK _ ?_ ?_ ?_); clear hK K)); with_reducible refine hK _ ?_ ?_ ?_; rotate_left; (focus (simp only [hg, hq, go_sem]; exact rfl)); clear hK K) | ((first | (with_reducible first | refine xA ?_ | refine xD ?_ | refine xO ?_ | refine xR ?_ | refine xG ?_ | refine xH ?_ | refine xM ?_) | ((with_reducible refine gA ?_); refine xA ?_) | ((with_reducible refine gD ?_); refine xD ?_) | ((with_reducible refine gG ?_); refine xG ?_)); simp only [hg, hq, go_sem]) | (with_reducible refine aGs (fun hg0 => ?_) (fun hg0 => ?_) <;> first | (with_reducible first | exact aF1 hg0 | exact aF2 hg0) | (simp only [hg0, hg, hq, go_sem])) | (with_reducible refine aNk ?_; intro bnil hnil; try simp only []) | exact aZ | fail))
   all_goals first | omega | skip
   refine hL _ (k + 1, q ++ [y]) ⟨by omega, hs, by simp; omega⟩ ?_ (by omega)
   rw [hs2]
   (simp only [SubF, List.set_cons_succ, List.set_cons_zero, go_sem]; (try simp only [List.set_cons_succ, List.set_cons_zero, go_sem]); repeat' (first | exact True.intro | with_reducible refine And.intro ?_ ?_ | rfl | omega))
 have hkl : k = c.cons.length := by omega
 subst hkl
 rw [List.drop_length] at hres
 have hNp : N = some q := by rw [hres]; simp [allO]
 subst hNp
 have hW : W = some (G ++ q) := by rw [hraw]; show some (B ++ p ++ q) = _; rw [hGp]
 subst hW
 have hck := Check_c (G ++ q) (hrf rfl)
 generalize G ++ q = Z at *
 simp only at hR
 by_cases h0 : chkL Z = 0
 ·rw [if_neg (by omega)] at hR
  rw [h0] at hck
  subst hR
  (simp only [List.set_cons_succ, List.set_cons_zero, go_sem] at hL ⊢)
  (repeat' (first | (with_reducible first | exact True.intro | refine And.intro ?_ ?_ | refine aBl ?_ | (refine aS 18 [20, 19, 21, 37, 36, 38, 54, 53, 55, 76, 75, 77] ?_; intro K hK)) | ((with_reducible first | refine aGo ?_); simp only [go_sem]) | ((with_reducible refine aCd ?_ ?_ (fun hb => ?_) (fun hb => ?_)); (iterate 2 simp only [go_sem]); all_goals (simp only [go_sem] at hb; try simp only [bls] at hb)) | ((iterate 6 try ((fail_if_success with_reducible refine hK _ ?_ ?_ ?_); clear hK K)); with_reducible refine hK _ ?_ ?_ ?_; rotate_left; (focus (simp only [go_sem]; exact rfl)); clear hK K) | ((first | (with_reducible first | refine xA ?_ | refine xD ?_ | refine xO ?_ | refine xR ?_ | refine xG ?_ | refine xH ?_ | refine xM ?_) | ((with_reducible refine gA ?_); refine xA ?_) | ((with_reducible refine gD ?_); refine xD ?_) | ((with_reducible refine gG ?_); refine xG ?_)); simp only [go_sem]) | (with_reducible refine aGs (fun hg0 => ?_) (fun hg0 => ?_) <;> first | (with_reducible first | exact aF1 hg0 | exact aF2 hg0) | (simp only [hg0, go_sem])) | (with_reducible refine aNk ?_; intro bnil hnil; try simp only []) | exact aZ | fail))
  all_goals first | omega | rfl | skip
 ·rw [if_pos h0] at hR
  generalize chkL Z = z at *
  subst hR
  (simp only [List.set_cons_succ, List.set_cons_zero, go_sem] at hL ⊢)
  (repeat' (first | (with_reducible first | exact True.intro | refine And.intro ?_ ?_ | refine aBl ?_ | (refine aS 18 [20, 19, 21, 37, 36, 38, 54, 53, 55, 76, 75, 77] ?_; intro K hK)) | ((with_reducible first | refine aGo ?_); simp only [go_sem]) | ((with_reducible refine aCd ?_ ?_ (fun hb => ?_) (fun hb => ?_)); (iterate 2 simp only [go_sem]); all_goals (simp only [go_sem] at hb; try simp only [bls] at hb)) | ((iterate 6 try ((fail_if_success with_reducible refine hK _ ?_ ?_ ?_); clear hK K)); with_reducible refine hK _ ?_ ?_ ?_; rotate_left; (focus (simp only [go_sem]; exact rfl)); clear hK K) | ((first | (with_reducible first | refine xA ?_ | refine xD ?_ | refine xO ?_ | refine xR ?_ | refine xG ?_ | refine xH ?_ | refine xM ?_) | ((with_reducible refine gA ?_); refine xA ?_) | ((with_reducible refine gD ?_); refine xD ?_) | ((with_reducible refine gG ?_); refine xG ?_)); simp only [go_sem]) | (with_reducible refine aGs (fun hg0 => ?_) (fun hg0 => ?_) <;> first | (with_reducible first | exact aF1 hg0 | exact aF2 hg0) | (simp only [hg0, go_sem])) | (with_reducible refine aNk ?_; intro bnil hnil; try simp only []) | exact aZ | fail))
  all_goals first | omega | rfl | skip
end Go.Proofs.YtkjnjkdcpbgabaaGreatDoor
