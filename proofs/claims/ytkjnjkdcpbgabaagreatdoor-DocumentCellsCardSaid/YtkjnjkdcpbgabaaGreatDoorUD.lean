/-
 Chapter 23: Cell.
-/
import Derived.Test.YtkjnjkdcpbgabaaGreatDoorUC
set_option linter.unusedSimpArgs false
set_option linter.unusedVariables false
namespace Go.Proofs.YtkjnjkdcpbgabaaGreatDoor
open Go.Eng Go.RowKit
structure Ev where
 name : List UInt8
 con : Bool
 obs : Bool
 forc : Bool
 fault : Int
 deriving DecidableEq
def Ev.d (e : Ev) : List D := [.str e.name, .bool e.con, .bool e.obs, .bool e.forc, .int .i64 e.fault]
def Ev.no : Ev := ⟨[], false, false, false, 0⟩
def evs (l : List Ev) : List (List D) := l.map Ev.d
theorem evs_length (l : List Ev) : (evs l).length = l.length := by simp [evs]
theorem evs_getD (l : List Ev) (k : Nat) : (evs l).getD k [.str [], .bool false, .bool false, .bool false, .int .i64 0] = [.str (l.getD k Ev.no).name, .bool (l.getD k Ev.no).con, .bool (l.getD k Ev.no).obs, .bool (l.getD k Ev.no).forc, .int .i64 (l.getD k Ev.no).fault] := by
 simp only [evs, List.getD, List.getElem?_map]
 cases l[k]? <;> rfl
theorem evs_sz (l : List Ev) : (∀ r : List D, r ∈ evs l → r.length = 5) ↔ True := ⟨fun _ => trivial, fun _ r hr => by obtain ⟨e, _, rfl⟩ := List.mem_map.1 hr; rfl⟩
attribute [go_sem] evs_length evs_getD evs_sz
theorem CloneEvs_c (xs : List Ev) (hn : xs.length ≤ 1000000) : ACalls Tryz.prog 56 [.one (.list (evs xs))] (.one (.own 0)) [.row 66 5 (evs xs)] := by
 (refine ACalls.of_body_own Ty_ok mixed Tryz.func56 rfl (by kernel_rfl) Tryz.ntmps56 (by simp) (congrArg Array.toList Tryz.results56) ?_)
 simp only [slotsOf]
 (repeat' (first | (with_reducible first | exact True.intro | refine And.intro ?_ ?_ | refine aBl ?_ | (refine aS 3 [] ?_; intro K hK)) | ((with_reducible first | refine aGo ?_); simp only [go_sem]) | ((with_reducible refine aCd ?_ ?_ (fun hb => ?_) (fun hb => ?_)); (iterate 2 simp only [go_sem]); all_goals (simp only [go_sem] at hb; try simp only [bls] at hb)) | ((iterate 6 try ((fail_if_success with_reducible refine hK _ ?_ ?_ ?_); clear hK K)); with_reducible refine hK _ ?_ ?_ ?_; rotate_left; (focus (simp only [go_sem]; exact rfl)); clear hK K) | (with_reducible refine aGs (fun hg0 => ?_) (fun hg0 => ?_) <;> first | (with_reducible first | exact aF1 hg0 | exact aF2 hg0) | (simp only [hg0, go_sem])) | (with_reducible refine aNk ?_; intro bnil hnil; try simp only []) | exact aZ | fail))
 rw [hnil hb]
def CE.zero : CE := ⟨[], [], [], []⟩
def cellGo (l : List It) : List It → CE → CE × Int
 | [], c => (c, 0)
 | x :: r, c =>
  if x.kind = 1 then cellGo l r { c with comps := c.comps ++ [⟨x.name, x.aut⟩] }
  else if x.kind = 2 then cellGo l r { c with reqs := c.reqs ++ [⟨x.name, x.aut⟩] }
  else if x.kind = 3 then (if (locR l x.locs).2 ≠ 0 then (CE.zero, (locR l x.locs).2) else cellGo l r { c with excl := c.excl ++ [⟨x.name, (locR l x.locs).1⟩] })
  else if x.kind = 4 then (if (locR l x.terms).2 ≠ 0 then (CE.zero, (locR l x.terms).2) else cellGo l r { c with cons := c.cons ++ [⟨x.name, (locR l x.terms).1, x.bound⟩] })
  else cellGo l r c
def cellR (l : List It) : CE × Int := if chkL l ≠ 0 then (CE.zero, chkL l) else cellGo l l CE.zero
def cellV (E : List Ev) (r : CE × Int) : List D := if r.2 = 0 then cellD (evs E) r.1 else cellD [] r.1
set_option maxHeartbeats 32000000 in
theorem Cell_c (E : List Ev) (l : List It) (hE : E.length ≤ 1000) (hf : LFits l) : ACalls Tryz.prog 24 [.one (.list (evs E)), .one (.list (itD l))] (.tup [.agg (cellV E (cellR l)), .one (.int .i64 (cellR l).2)]) [] := by
 have hl := hf.len
 have hck := Check_c l hf
 have hcl := ACalls.frozen (cloneAll_c l hf)
 have hce := ACalls.frozen (CloneEvs_c E (by omega))
 have hR : cellR l = if chkL l ≠ 0 then (CE.zero, chkL l) else cellGo l l CE.zero := rfl
 have hV : cellV E (cellR l) = if (cellR l).2 = 0 then cellD (evs E) (cellR l).1 else cellD [] (cellR l).1 := rfl
 generalize cellV E (cellR l) = V at *
 generalize cellR l = R at *
 have e0 : cellD [] CE.zero = [.list [], .list [], .list [], .list [], .list []] := rfl
 rcases (Decidable.em (chkL l = 0)).symm with h0 | h0
 ·rw [if_pos h0] at hR
  subst hR
  rw [if_neg h0, e0] at hV
  subst hV
  generalize chkL l = z at *
  (refine ACalls.of_body Ty_ok mixed Tryz.func24 rfl (by kernel_rfl) Tryz.ntmps24 (by simp) (congrArg Array.toList Tryz.results24) ?_)
  simp only [slotsOf]
  (repeat' (first | (with_reducible first | exact True.intro | refine And.intro ?_ ?_ | refine aBl ?_ | (refine aS 14 [25, 24, 31, 26] ?_; intro K hK)) | ((with_reducible first | refine aGo ?_); simp only [go_sem]) | ((with_reducible refine aCd ?_ ?_ (fun hb => ?_) (fun hb => ?_)); (iterate 2 simp only [go_sem]); all_goals (simp only [go_sem] at hb; try simp only [bls] at hb)) | ((iterate 6 try ((fail_if_success with_reducible refine hK _ ?_ ?_ ?_); clear hK K)); with_reducible refine hK _ ?_ ?_ ?_; rotate_left; (focus (simp only [go_sem]; exact rfl)); clear hK K) | ((first | (with_reducible first | refine xA ?_ | refine xD ?_ | refine xO ?_ | refine xR ?_ | refine xG ?_ | refine xH ?_ | refine xM ?_) | ((with_reducible refine gA ?_); refine xA ?_) | ((with_reducible refine gD ?_); refine xD ?_) | ((with_reducible refine gG ?_); refine xG ?_)); simp only [go_sem]) | (with_reducible refine aGs (fun hg0 => ?_) (fun hg0 => ?_) <;> first | (with_reducible first | exact aF1 hg0 | exact aF2 hg0) | (simp only [hg0, go_sem])) | (with_reducible refine aNk ?_; intro bnil hnil; try simp only []) | exact aZ | fail))
  all_goals first | omega | rfl | skip
 rw [if_neg (by omega)] at hR
 rw [h0] at hck
 (refine ACalls.of_body Ty_ok mixed Tryz.func24 rfl (by kernel_rfl) Tryz.ntmps24 (by simp) (congrArg Array.toList Tryz.results24) ?_)
 simp only [slotsOf]
 (repeat' (first | (with_reducible first | exact True.intro | refine And.intro ?_ ?_ | refine aBl ?_ | (refine aS 14 [25, 24, 31, 26] ?_; intro K hK)) | ((with_reducible first | refine aGo ?_); simp only [go_sem]) | ((with_reducible refine aCd ?_ ?_ (fun hb => ?_) (fun hb => ?_)); (iterate 2 simp only [go_sem]); all_goals (simp only [go_sem] at hb; try simp only [bls] at hb)) | ((iterate 6 try ((fail_if_success with_reducible refine hK _ ?_ ?_ ?_); clear hK K)); with_reducible refine hK _ ?_ ?_ ?_; rotate_left; (focus (simp only [go_sem]; exact rfl)); clear hK K) | ((first | (with_reducible first | refine xA ?_ | refine xD ?_ | refine xO ?_ | refine xR ?_ | refine xG ?_ | refine xH ?_ | refine xM ?_) | ((with_reducible refine gA ?_); refine xA ?_) | ((with_reducible refine gD ?_); refine xD ?_) | ((with_reducible refine gG ?_); refine xG ?_)); simp only [go_sem]) | (with_reducible refine aGs (fun hg0 => ?_) (fun hg0 => ?_) <;> first | (with_reducible first | exact aF1 hg0 | exact aF2 hg0) | (simp only [hg0, go_sem])) | (with_reducible refine aNk ?_; intro bnil hnil; try simp only []) | exact aZ | fail))
 all_goals first | omega | skip
 refine awp_loopT [.cell 1 1 92 5, .cell 1 2 92 5, .cell 1 3 95 2, .cell 1 4 98 3] _ (by simp only [go_sem]; rfl) (Nat × CE) (fun s => s.1 ≤ l.length ∧ R = cellGo l (l.drop s.1) s.2 ∧ s.2.comps.length + s.2.reqs.length + s.2.excl.length + s.2.cons.length ≤ s.1) (fun s => [(26, .one (.int .i64 s.1))])
  (fun s => [.var 52 [.nil, .nil, .nil, .nil, .nil], .var 52 [.list (evs E), .own 2, .own 3, .own 4, .own 5], .row 92 5 (niD s.2.comps), .row 92 5 (niD s.2.reqs), .row 95 2 (exD s.2.excl), .row 98 3 (cnD s.2.cons)]) (fun s => l.length - s.1) (0, CE.zero) ⟨by omega, hR, by decide⟩ ?_ ?_
 ·have e1 : niD CE.zero.comps = [] := rfl
  have e2 : niD CE.zero.reqs = [] := rfl
  have e3 : exD CE.zero.excl = [] := rfl
  have e4 : cnD CE.zero.cons = [] := rfl
  rw [e1, e2, e3, e4]
  (simp only [SubF, go_sem]; (try simp only [go_sem]); repeat' (first | exact True.intro | with_reducible refine And.intro ?_ ?_ | rfl | omega))
 rintro ⟨k, c⟩ ⟨hk, hres, hcl2⟩ L hL
 dsimp only at hk hres hcl2
 have hq : ((k : Nat) : Int).toNat = k := by omega
 by_cases hlt : k < l.length
 ·have hg := itD_get hlt [.int .i64 0, .str [], .nil, .int .i64 0, .nil, .nil, .nil, .nil, .int .i64 0]
  have hfe := hf.get hlt
  have hlo := locals_c l (l.getD k It.no) hl hfe.locs
  have hte := terms_c l (l.getD k It.no) hl hfe.terms
  rw [drop_getD l k It.no hlt, cellGo] at hres
  generalize l.getD k It.no = y at *
  generalize locR l y.locs = LR at *
  generalize locR l y.terms = TR at *
  simp only [It.d] at hg hlo hte
  (simp only [go_sem] at hL ⊢)
  (repeat' (first | (with_reducible first | exact True.intro | refine And.intro ?_ ?_ | refine aBl ?_ | (refine aS 14 [25, 24, 31, 26] ?_; intro K hK)) | ((with_reducible first | refine aGo ?_); simp only [hg, hq, go_sem]) | ((with_reducible refine aCd ?_ ?_ (fun hb => ?_) (fun hb => ?_)); (iterate 2 simp only [hg, hq, go_sem]); all_goals (simp only [hg, hq, go_sem] at hb; try simp only [bls] at hb)) | ((iterate 6 try ((fail_if_success with_reducible refine hK _ ?_ ?_ ?_); clear hK K)); with_reducible refine hK _ ?_ ?_ ?_; rotate_left; (focus (simp only [hg, hq, go_sem]; exact rfl)); clear hK K) | ((first | (with_reducible first | refine xA ?_ | refine xD ?_ | refine xO ?_ | refine xR ?_ | refine xG ?_ | refine xH ?_ | refine xM ?_) | ((with_reducible refine gA ?_); refine xA ?_) | ((with_reducible refine gD ?_); refine xD ?_) | ((with_reducible refine gG ?_); refine xG ?_)); simp only [hg, hq, go_sem]) | (with_reducible refine aGs (fun hg0 => ?_) (fun hg0 => ?_) <;> first | (with_reducible first | exact aF1 hg0 | exact aF2 hg0) | (simp only [hg0, hg, hq, go_sem])) | (with_reducible refine aNk ?_; intro bnil hnil; try simp only []) | exact aZ | fail))
  all_goals first | omega | skip
  ·rw [if_pos (by omega)] at hres
   refine hL _ (k + 1, { c with comps := c.comps ++ [⟨y.name, y.aut⟩] }) ⟨by omega, hres, by simp only [List.length_append, List.length_cons, List.length_nil]; omega⟩ ?_ (by dsimp only; omega)
   dsimp only
   rw [← niD_append]
   (simp only [SubF, go_sem]; (try simp only [go_sem]); repeat' (first | exact True.intro | with_reducible refine And.intro ?_ ?_ | rfl | omega))
  ·rw [if_neg (by omega), if_pos (by omega)] at hres
   refine hL _ (k + 1, { c with reqs := c.reqs ++ [⟨y.name, y.aut⟩] }) ⟨by omega, hres, by simp only [List.length_append, List.length_cons, List.length_nil]; omega⟩ ?_ (by dsimp only; omega)
   dsimp only
   rw [← niD_append]
   (simp only [SubF, go_sem]; (try simp only [go_sem]); repeat' (first | exact True.intro | with_reducible refine And.intro ?_ ?_ | rfl | omega))
  ·rw [if_neg (by omega), if_neg (by omega), if_pos (by omega), if_pos (by omega)] at hres
   subst hres
   rw [if_neg (by omega), e0] at hV
   exact hV.symm
  ·rw [if_neg (by omega), if_neg (by omega), if_pos (by omega), if_pos (by omega)] at hres
   subst hres
   rfl
  ·rw [if_neg (by omega), if_neg (by omega), if_pos (by omega), if_neg (by omega)] at hres
   refine hL _ (k + 1, { c with excl := c.excl ++ [⟨y.name, LR.1⟩] }) ⟨by omega, hres, by simp only [List.length_append, List.length_cons, List.length_nil]; omega⟩ ?_ (by dsimp only; omega)
   dsimp only
   rw [← exD_append]
   (simp only [SubF, go_sem]; (try simp only [go_sem]); repeat' (first | exact True.intro | with_reducible refine And.intro ?_ ?_ | rfl | omega))
  ·rw [if_neg (by omega), if_neg (by omega), if_neg (by omega), if_pos (by omega), if_pos (by omega)] at hres
   subst hres
   rw [if_neg (by omega), e0] at hV
   exact hV.symm
  ·rw [if_neg (by omega), if_neg (by omega), if_neg (by omega), if_pos (by omega), if_pos (by omega)] at hres
   subst hres
   rfl
  ·rw [if_neg (by omega), if_neg (by omega), if_neg (by omega), if_pos (by omega), if_neg (by omega)] at hres
   refine hL _ (k + 1, { c with cons := c.cons ++ [⟨y.name, TR.1, y.bound⟩] }) ⟨by omega, hres, by simp only [List.length_append, List.length_cons, List.length_nil]; omega⟩ ?_ (by dsimp only; omega)
   dsimp only
   rw [← cnD_append]
   (simp only [SubF, go_sem]; (try simp only [go_sem]); repeat' (first | exact True.intro | with_reducible refine And.intro ?_ ?_ | rfl | omega))
  ·rw [if_neg (by omega), if_neg (by omega), if_neg (by omega), if_neg (by omega)] at hres
   refine hL _ (k + 1, c) ⟨by omega, hres, by dsimp only; omega⟩ ?_ (by dsimp only; omega)
   (simp only [SubF, go_sem]; (try simp only [go_sem]); repeat' (first | exact True.intro | with_reducible refine And.intro ?_ ?_ | rfl | omega))
 have hkl : k = l.length := by omega
 subst hkl
 rw [List.drop_length, cellGo] at hres
 subst hres
 rw [if_pos rfl] at hV
 subst hV
 (simp only [go_sem] at hL ⊢)
 (repeat' (first | (with_reducible first | exact True.intro | refine And.intro ?_ ?_ | refine aBl ?_ | (refine aS 14 [25, 24, 31, 26] ?_; intro K hK)) | ((with_reducible first | refine aGo ?_); simp only [go_sem]) | ((with_reducible refine aCd ?_ ?_ (fun hb => ?_) (fun hb => ?_)); (iterate 2 simp only [go_sem]); all_goals (simp only [go_sem] at hb; try simp only [bls] at hb)) | ((iterate 6 try ((fail_if_success with_reducible refine hK _ ?_ ?_ ?_); clear hK K)); with_reducible refine hK _ ?_ ?_ ?_; rotate_left; (focus (simp only [go_sem]; exact rfl)); clear hK K) | (with_reducible refine aGs (fun hg0 => ?_) (fun hg0 => ?_) <;> first | (with_reducible first | exact aF1 hg0 | exact aF2 hg0) | (simp only [hg0, go_sem])) | (with_reducible refine aNk ?_; intro bnil hnil; try simp only []) | exact aZ | fail))
 all_goals first | omega | rfl | skip
end Go.Proofs.YtkjnjkdcpbgabaaGreatDoor
